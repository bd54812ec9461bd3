/- vary: what a glyph is at a place, in plain lists. -/
import Derived.Test.YtaloembfekdkoaaVaryShifts
import Derived.Test.YtaloembfekdkoaaGRat
namespace Go.Proofs.Ytaloembfekdkoaa
open Go.RowKit
set_option linter.unusedVariables false
theorem cutR_in (m : Bool) (A y : Nat) (g : Nat → Bool) : I64 (Rat.cutR m A y g).1 := by
  unfold Rat.cutR I64
  generalize A / y + (if g (A % y) then 1 else 0) = q
  by_cases h1 : A / 18446744073709551616 ≥ y ∨ 9223372036854775808 < A / y
  · rw [if_pos h1]; simp
  · rw [if_neg h1]
    by_cases h2 : m = true ∧ q ≤ 9223372036854775808
    · rw [if_pos h2]; simp only; omega
    · rw [if_neg h2]
      by_cases h3 : m = false ∧ q < 9223372036854775808
      · rw [if_pos h3]; simp only; omega
      · rw [if_neg h3]; simp
theorem roundR_in (N D : Int) : I64 (Rat.roundR N D) := by
  unfold Rat.roundR
  split
  · exact cutR_in _ _ _ _
  · unfold I64; simp
def Vr.ptR (m : List (Int × Sh)) (i : Nat) (p : DPoint) : Option DPoint :=
  match lookP m (i : Int) with
  | none => some p
  | some sh => match Vr.movedR p.x (Rat.roundR sh.1.1 sh.1.2) (-16384) with
    | none => none
    | some a => match Vr.movedR p.y (Rat.roundR sh.2.1 sh.2.2) (-16384) with
      | none => none
      | some b => some ⟨a, b, p.on⟩
def Vr.advR (m : List (Int × Sh)) (adv : Int) : Option Int :=
  match lookP m (-1) with
  | none => some adv
  | some sh => Vr.movedR adv (Rat.roundR sh.1.1 sh.1.2) 0
def Vr.ptsR (m : List (Int × Sh)) : Nat → List DPoint → Option (List DPoint)
  | _, [] => some []
  | i, p :: r => match Vr.ptR m i p with
    | none => none
    | some q => match Vr.ptsR m (i + 1) r with
      | none => none
      | some l => some (q :: l)
def Vr.glyphR (regs : List DRegion) (xs : List (Int × Int)) (g : DGlyph) : Except Int DGlyph :=
  match Vr.shiftsR regs xs g.pts.length g.deltas [] with
  | .error e => .error e
  | .ok m => match Vr.advR m g.adv with
    | none => .error 3
    | some a => match Vr.ptsR m 0 g.pts with
      | none => .error 3
      | some ps => .ok { g with adv := a, pts := ps, deltas := [] }
def Vr.curAdv (m : List (Int × Sh)) (D : List Int) (adv : Int) : Int := if -1 ∈ D then (Vr.advR m adv).getD adv else adv
def Vr.curPt (m : List (Int × Sh)) (D : List Int) (i : Nat) (p : DPoint) : DPoint := if (i : Int) ∈ D then (Vr.ptR m i p).getD p else p
def Vr.curPts (m : List (Int × Sh)) (D : List Int) (pts : List DPoint) : List DPoint := pts.mapIdx fun i p => Vr.curPt m D i p
def Vr.fine (m : List (Int × Sh)) (D : List Int) (adv : Int) (pts : List DPoint) : Prop := (-1 ∈ D → Vr.advR m adv ≠ none) ∧ ∀ i (h : i < pts.length), (i : Int) ∈ D → Vr.ptR m i pts[i] ≠ none
theorem curPts_length (m : List (Int × Sh)) (D : List Int) (pts : List DPoint) : (Vr.curPts m D pts).length = pts.length := by simp [Vr.curPts]
theorem curPts_at (m : List (Int × Sh)) (D : List Int) (pts : List DPoint) (i : Nat) (h : i < pts.length) : (Vr.curPts m D pts)[i]? = some (Vr.curPt m D i pts[i]) := by simp [Vr.curPts, h]
theorem curPts_cons {m : List (Int × Sh)} {D : List Int} {pts : List DPoint} {i : Nat} (h : i < pts.length) : Vr.curPts m ((i : Int) :: D) pts = (Vr.curPts m D pts).set i ((Vr.ptR m i pts[i]).getD pts[i]) := by
  apply List.ext_getElem?
  intro q
  rw [List.getElem?_set]
  rcases Nat.lt_or_ge q pts.length with hq | hq
  · rw [curPts_at m _ pts q hq, curPts_at m D pts q hq]
    by_cases hiq : i = q
    · subst hiq
      simp [Vr.curPt, curPts_length, h]
    · rw [if_neg hiq]
      have : ((q : Int) ∈ (i : Int) :: D) ↔ ((q : Int) ∈ D) := by
        rw [List.mem_cons]
        exact ⟨fun h => h.resolve_left (by omega), .inr⟩
      simp only [Vr.curPt, this]
  · rw [List.getElem?_eq_none (by rw [curPts_length]; exact hq), List.getElem?_eq_none (by rw [curPts_length]; exact hq)]
    by_cases hiq : i = q
    · omega
    · rw [if_neg hiq]
theorem curPts_neg {m : List (Int × Sh)} {D : List Int} {pts : List DPoint} : Vr.curPts m ((-1) :: D) pts = Vr.curPts m D pts := by
  unfold Vr.curPts
  congr 1
  funext i p
  unfold Vr.curPt
  have : ((i : Int) ∈ (-1 : Int) :: D) ↔ ((i : Int) ∈ D) := by
    rw [List.mem_cons]
    exact ⟨fun h => h.resolve_left (by omega), .inr⟩
  simp only [this]
theorem curAdv_pos {m : List (Int × Sh)} {D : List Int} {adv : Int} {i : Nat} : Vr.curAdv m ((i : Int) :: D) adv = Vr.curAdv m D adv := by
  unfold Vr.curAdv
  have : ((-1 : Int) ∈ (i : Int) :: D) ↔ ((-1 : Int) ∈ D) := by
    rw [List.mem_cons]
    exact ⟨fun h => h.resolve_left (by omega), .inr⟩
  simp only [this]
theorem ptsR_none {m : List (Int × Sh)} : ∀ (l : List DPoint) (s i : Nat) (h : i < l.length), Vr.ptR m (s + i) l[i] = none → Vr.ptsR m s l = none
  | p :: r, s, 0, _, hn => by unfold Vr.ptsR; simp only [List.getElem_cons_zero, Nat.add_zero] at hn; rw [hn]
  | p :: r, s, i + 1, h, hn => by
    have := ptsR_none r (s + 1) i (by simpa using h) (by rw [show s + 1 + i = s + (i + 1) by omega]; simpa using hn)
    unfold Vr.ptsR
    cases Vr.ptR m s p with
    | none => rfl
    | some q => simp only [this]
theorem ptsR_some {m : List (Int × Sh)} : ∀ (l : List DPoint) (s : Nat) (f : Nat → DPoint → DPoint), (∀ i (h : i < l.length), Vr.ptR m (s + i) l[i] = some (f i l[i])) → Vr.ptsR m s l = some (l.mapIdx f)
  | [], _, _, _ => rfl
  | p :: r, s, f, h => by
    have h0 := h 0 (by simp)
    simp only [Nat.add_zero, List.getElem_cons_zero] at h0
    have ih := ptsR_some r (s + 1) (fun i => f (i + 1)) (fun i hi => by have := h (i + 1) (by simpa using hi); rw [show s + 1 + i = s + (i + 1) by omega]; simpa using this)
    unfold Vr.ptsR
    rw [h0, ih, List.mapIdx_cons]
theorem all_seen_glyph {m : List (Int × Sh)} {D : List Int} {adv : Int} {pts : List DPoint} (hf : Vr.fine m D adv pts) (hall : ∀ p ∈ m, p.1 ∈ D) : Vr.advR m adv = some (Vr.curAdv m D adv) ∧ Vr.ptsR m 0 pts = some (Vr.curPts m D pts) := by
  have hno : ∀ k, k ∉ D → lookP m k = none := fun k hk => by
    unfold lookP
    cases hf : m.find? (fun p => p.1 == k) with
    | none => rfl
    | some p =>
      have h1 := List.find?_some hf
      have h2 := List.mem_of_find?_eq_some hf
      exact absurd (hall p h2) (by have : p.1 = k := by simpa using h1
                                   rw [this]; exact hk)
  constructor
  · unfold Vr.curAdv
    by_cases h : (-1 : Int) ∈ D
    · rw [if_pos h]
      cases ha : Vr.advR m adv with
      | none => exact absurd ha (hf.1 h)
      | some a => rfl
    · rw [if_neg h]
      unfold Vr.advR
      rw [hno _ h]
  · refine ptsR_some pts 0 _ fun i hi => ?_
    rw [Nat.zero_add]
    unfold Vr.curPt
    by_cases h : (i : Int) ∈ D
    · rw [if_pos h]
      cases ha : Vr.ptR m i pts[i] with
      | none => exact absurd ha (hf.2 i hi h)
      | some a => rfl
    · rw [if_neg h]
      unfold Vr.ptR
      rw [hno _ h]
theorem shifts_keys {regs : List DRegion} {xs : List (Int × Int)} {np : Nat} : ∀ (ds : List DDelta) (m r : List (Int × Sh)), (∀ p ∈ m, -1 ≤ p.1 ∧ p.1 < np) → Vr.shiftsR regs xs np ds m = .ok r → ∀ p ∈ r, -1 ≤ p.1 ∧ p.1 < np
  | [], m, r, hm, h => by unfold Vr.shiftsR at h; cases h; exact hm
  | d :: ds, m, r, hm, h => by
    unfold Vr.shiftsR at h
    cases hs : Vr.shiftStep regs xs np m d with
    | error e => rw [hs] at h; cases h
    | ok m' =>
      rw [hs] at h
      refine shifts_keys ds m' r ?_ h
      unfold Vr.shiftStep at hs
      split at hs
      · split at hs
        · rename_i hp
          split at hs
          · cases hs
          · split at hs
            · cases hs
            · cases hs
              intro p hpm
              unfold putP at hpm
              split at hpm
              · obtain ⟨q, hq, rfl⟩ := List.mem_map.1 hpm
                split
                · exact hp
                · exact hm q hq
              · rcases List.mem_append.1 hpm with h1 | h1
                · exact hm p h1
                · obtain rfl := List.mem_singleton.1 h1
                  exact hp
        · cases hs
      · cases hs
theorem look_of_mem {m : List (Int × Sh)} (hn : (m.map (·.1)).Nodup) {k : Int} {v : Sh} (h : (k, v) ∈ m) : lookP m k = some v := by
  unfold lookP
  induction m with
  | nil => cases h
  | cons p r ih =>
    simp only [List.map_cons, List.nodup_cons] at hn
    rcases List.mem_cons.1 h with h | h
    · subst h; simp
    · have hne : p.1 ≠ k := fun e => hn.1 (by rw [e]; exact List.mem_map.2 ⟨(k, v), h, rfl⟩)
      rw [List.find?_cons_of_neg (by simpa using hne)]
      exact ih hn.2 h
end Go.Proofs.Ytaloembfekdkoaa

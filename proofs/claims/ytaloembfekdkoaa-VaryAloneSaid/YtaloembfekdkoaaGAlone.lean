/-
  VaryAlone: what is to be shown of the plain lists; the argument, opened.
  VaryAlone: what a glyph at a place keeps of its glyph.
-/
import Derived.Test.YtaloembfekdkoaaVaryTop4
import Derived.Test.YtaloembfekdkoaaPrintGlyph
import Derived.Test.YtaloembfekdkoaaDataW
import Derived.Test.YtaloembfekdkoaaGOpen

namespace Go.Proofs.Ytaloembfekdkoaa
open Go.RowKit
set_option linter.unusedVariables false
theorem QGlyph.psmall {g : DGlyph} (h : QGlyph g) : PSmall g := by
  obtain ⟨h0, h1, h2, ⟨h3, _⟩, ⟨h4, _⟩, ⟨h5, _⟩, h6, _⟩ := h
  exact ⟨h0, h1, h2, h3, h4, h5, h6⟩
theorem PSmall.gsmall {g : DGlyph} (h : PSmall g) : GSmall g := ⟨h.2.1, h.2.2.1, h.2.2.2.1, h.2.2.2.2.1, h.2.2.2.2.2.1, h.2.2.2.2.2.2⟩
theorem QFont.fsmall {F : DFont} (h : QFont F) : FSmall F := by
  obtain ⟨⟨h0, h0'⟩, ⟨h1, _⟩, ⟨h2, h2'⟩, ⟨h3, h3'⟩, _, _, ⟨h6, h6'⟩, h7, _⟩ := h
  refine ⟨⟨h0, fun g hg => (h0' g hg).psmall.gsmall⟩, h1, ⟨h2, fun x hx => ?_⟩, ⟨h3, fun x hx => (h3' x hx).2.1⟩, ⟨h6, fun x hx => h6' x hx⟩, h7⟩
  obtain ⟨h4, h5⟩ := h2' x hx
  refine ⟨h4, fun r hr => ?_⟩
  obtain ⟨⟨a0, a1⟩, ⟨a2, a3⟩, ⟨a4, a5⟩, ⟨a6, _⟩, ⟨a7, _⟩⟩ := h5 r hr
  exact ⟨⟨a0, fun x hx => a1 x hx⟩, ⟨a2, fun x hx => a3 x hx⟩, ⟨a4, fun x hx => a5 x hx⟩, a6, a7⟩
theorem normR_ne {axes : List DAxis} {xs : List Int} {k : Int} (h : Vr.normR axes xs = .error k) : k ≠ 0 := by
  unfold Vr.normR at h
  split at h
  · split at h
    · cases h
    · cases h; decide
  · cases h; decide
theorem fontGs_ne {regs : List DRegion} {xs : List (Int × Int)} : ∀ (gs : List DGlyph) {k : Int}, Vr.fontGs regs xs gs = .error k → k ≠ 0
  | [], k, h => by cases h
  | g :: r, k, h => by
    unfold Vr.fontGs at h
    cases hg : Vr.glyphR regs xs g with
    | error e => rw [hg] at h; cases h; exact glyphR_ne hg
    | ok x =>
      rw [hg] at h
      simp only at h
      cases hr : Vr.fontGs regs xs r with
      | error e => rw [hr] at h; cases h; exact fontGs_ne r hr
      | ok l => rw [hr] at h; cases h
theorem fontR_ne {F : DFont} {xs : List Int} {k : Int} (h : Vr.fontR F xs = .error k) : k ≠ 0 := by
  unfold Vr.fontR at h
  cases hn : Vr.normR F.axes xs with
  | error e => rw [hn] at h; cases h; exact normR_ne hn
  | ok at' =>
    rw [hn] at h
    simp only at h
    cases hg : Vr.fontGs F.regions at' F.glyphs with
    | error e => rw [hg] at h; cases h; exact fontGs_ne _ hg
    | ok l => rw [hg] at h; cases h
theorem alone_err {F : DFont} {xs : List Int} {i : Nat} {g : DGlyph} {k : Int} (hg : F.glyphs[i]? = some g) (ha : ∀ (j : Nat) (x : DGlyph), j < i → F.glyphs[j]? = some x → ∃ y, Vr.atGlyph F.axes F.regions xs x = .ok y) (he : Vr.atGlyph F.axes F.regions xs g = .error k) : Vr.fontR F xs = .error k := by
  unfold Vr.fontR
  unfold Vr.atGlyph at he ha
  cases hn : Vr.normR F.axes xs with
  | error e => rw [hn] at he; cases he; rfl
  | ok at' =>
    rw [hn] at he ha
    simp only
    rw [fontGs_err F.glyphs i g hg ha he]
theorem fontGs_all {regs : List DRegion} {xs : List (Int × Int)} : ∀ (gs l : List DGlyph), Vr.fontGs regs xs gs = .ok l → l.length = gs.length ∧ ∀ (i : Nat) (g : DGlyph), gs[i]? = some g → ∃ y, Vr.glyphR regs xs g = .ok y ∧ l[i]? = some y
  | [], l, h => by cases h; exact ⟨rfl, fun i g hg => by simp at hg⟩
  | g :: r, l, h => by
    unfold Vr.fontGs at h
    cases hg : Vr.glyphR regs xs g with
    | error e => rw [hg] at h; cases h
    | ok x =>
      rw [hg] at h
      simp only at h
      cases hr : Vr.fontGs regs xs r with
      | error e => rw [hr] at h; cases h
      | ok l' =>
        rw [hr] at h
        cases h
        obtain ⟨h1, h2⟩ := fontGs_all r l' hr
        refine ⟨by simp [h1], fun i g' hg' => ?_⟩
        cases i with
        | zero => simp at hg'; subst hg'; exact ⟨x, hg, rfl⟩
        | succ i => simpa using h2 i g' (by simpa using hg')
theorem alone_ok {F F' : DFont} {xs : List Int} (h : Vr.fontR F xs = .ok F') : F'.glyphs.length = F.glyphs.length ∧ ∀ (i : Nat) (g : DGlyph), F.glyphs[i]? = some g → ∃ y, Vr.atGlyph F.axes F.regions xs g = .ok y ∧ F'.glyphs[i]? = some y := by
  unfold Vr.fontR at h
  unfold Vr.atGlyph
  cases hn : Vr.normR F.axes xs with
  | error e => rw [hn] at h; cases h
  | ok at' =>
    rw [hn] at h
    simp only at h ⊢
    cases hg : Vr.fontGs F.regions at' F.glyphs with
    | error e => rw [hg] at h; cases h
    | ok l =>
      rw [hg] at h
      cases h
      exact fontGs_all _ _ hg
theorem alone_end {F : DFont} {xs : List Int} (ha : ∀ (j : Nat) (x : DGlyph), F.glyphs[j]? = some x → ∃ y, Vr.atGlyph F.axes F.regions xs x = .ok y) :
    (∃ k, Vr.normR F.axes xs = .error k ∧ Vr.fontR F xs = .error k) ∨ ∃ l F', Vr.normR F.axes xs = .ok l ∧ Vr.fontR F xs = .ok F' := by
  unfold Vr.fontR
  unfold Vr.atGlyph at ha
  cases hn : Vr.normR F.axes xs with
  | error e => exact .inl ⟨e, rfl, rfl⟩
  | ok at' =>
    right
    rw [hn] at ha
    simp only at ha ⊢
    rw [fontGs_ok F.glyphs (fun x hx => by
      obtain ⟨j, hj, hje⟩ := List.getElem_of_mem hx
      exact ha j x (by rw [List.getElem?_eq_getElem hj, hje]))]
    exact ⟨_, _, rfl, rfl⟩
end Go.Proofs.Ytaloembfekdkoaa

namespace Go.Proofs.Ytaloembfekdkoaa
open Go.RowKit
set_option linter.unusedVariables false
theorem ptsR_length {m : List (Int × Sh)} : ∀ (l : List DPoint) (s : Nat) (r : List DPoint), Vr.ptsR m s l = some r → r.length = l.length
  | [], s, r, h => by cases h; rfl
  | p :: l, s, r, h => by
    unfold Vr.ptsR at h
    split at h
    · cases h
    · split at h
      · cases h
      · rename_i hr
        cases h
        simp [ptsR_length l (s + 1) _ hr]
theorem atGlyph_small {axes : List DAxis} {regs : List DRegion} {xs : List Int} {g y : DGlyph} (h : Vr.atGlyph axes regs xs g = .ok y) (hs : PSmall g) : PSmall y := by
  unfold Vr.atGlyph at h
  cases hn : Vr.normR axes xs with
  | error e => rw [hn] at h; cases h
  | ok at' =>
    rw [hn] at h
    simp only at h
    unfold Vr.glyphR at h
    cases hm : Vr.shiftsR regs at' g.pts.length g.deltas [] with
    | error e => rw [hm] at h; cases h
    | ok m =>
      rw [hm] at h
      simp only at h
      split at h
      · cases h
      · split at h
        · cases h
        · rename_i hp
          cases h
          obtain ⟨h1, h2, h3, h4, h5, h6, h7⟩ := hs
          exact ⟨h1, by rw [ptsR_length _ _ _ hp]; exact h2, h3, h4, h5, by simp, h7⟩
end Go.Proofs.Ytaloembfekdkoaa

/- vary: along. Printed by gen_along.py. -/
import Derived.Test.YtaloembfekdkoaaVaryLeaf
import Derived.Test.YtaloembfekdkoaaGRat
namespace Go.Proofs.Ytaloembfekdkoaa
open Go.RowKit
set_option linter.unusedVariables false
def Vr.alongR (v l d m : Int) : Int × Int := if v < d then ((Rat.tell (v - d) (d - l)).1, (Rat.tell (v - d) (d - l)).2.1) else if d < v then ((Rat.tell (v - d) (m - d)).1, (Rat.tell (v - d) (m - d)).2.1) else (0, 1)
def Vr.onAxis (v l d m : Int) : Prop := -16384 ≤ l ∧ l ≤ d ∧ d ≤ m ∧ m ≤ 16384 ∧ l ≤ v ∧ v ≤ m
theorem made_some {n d : Int} (hd : d ≠ 0) (h1 : n.natAbs ≤ 9223372036854775807) (h2 : d.natAbs ≤ 9223372036854775807) : Rat.makeR n d = ((Rat.tell n d).1, (Rat.tell n d).2.1, true) := by
  rw [Rat.makeR_tell, if_neg hd]
  have := Rat.tell_some h1 h2
  obtain ⟨⟨a, b, c⟩, he⟩ : ∃ r, Rat.tell n d = r := ⟨_, rfl⟩
  rw [he] at this ⊢
  simp only at this
  subst this
  rfl
theorem axisBlk {w : World} {b : Nat} {x y z u : Value} {t : TypeId} (h : Blk w b #[x, y, z, u] t) : w.cell? ⟨b, 1, none⟩ = some y ∧ w.cell? ⟨b, 2, none⟩ = some z ∧ w.cell? ⟨b, 3, none⟩ = some u := ⟨by rw [h.cell]; rfl, by rw [h.cell]; rfl, by rw [h.cell]; rfl⟩
set_option maxHeartbeats 2000000 in
theorem along_yes (s : ByteArray) (v l d m : Int) (w : World) (h : Vr.onAxis v l d m) :
    Calls Try.prog 24 #[.agg #[.string s, .int .i64 l, .int .i64 d, .int .i64 m], .int .i64 v] w fun e w' => e = .returned (.agg #[.int .i64 (Vr.alongR v l d m).1, .int .i64 (Vr.alongR v l d m).2]) ∧ Mod [] w w' := by
  obtain ⟨h1, h2, h3, h4, h5, h6⟩ := h
  have T := Lib.hid (own2 w #[.string s, .int .i64 l, .int .i64 d, .int .i64 m] 88 #[.int .i64 0, .int .i64 0] 68)
  obtain ⟨p1, p2, p3⟩ := axisBlk (T.out.at 0 rfl)
  have k1 : decide (l < -16384) = false := decide_eq_false (by omega)
  have k2 : decide (d < l) = false := decide_eq_false (by omega)
  have k3 : decide (m < d) = false := decide_eq_false (by omega)
  have k4 : decide (16384 < m) = false := decide_eq_false (by omega)
  have k5 : decide (v < l) = false := decide_eq_false (by omega)
  have k6 : decide (m < v) = false := decide_eq_false (by omega)
  by_cases hlt : v < d
  · have k7 : decide (v < d) = true := decide_eq_true hlt
    have hv : Vr.alongR v l d m = ((Rat.tell (v - d) (d - l)).1, (Rat.tell (v - d) (d - l)).2.1) := by unfold Vr.alongR; rw [if_pos hlt]
    rw [hv]
    have HMk := Lib.hid (fun W => make_any (v - d) (d - l) W (by omega) (by omega))
    rw [made_some (by omega) (by omega) (by omega)] at HMk
    have e1 : IntKind.i64.wrap (v - d) = v - d := IntWalk.i64_in _ (by omega)
    have e2 : IntKind.i64.wrap (d - l) = d - l := IntWalk.i64_in _ (by omega)
    obtain ⟨x, hx⟩ : ∃ x, x = v - d := ⟨_, rfl⟩
    obtain ⟨y, hy⟩ : ∃ y, y = d - l := ⟨_, rfl⟩
    rw [← hx, ← hy] at HMk ⊢
    rw [← hx] at e1
    rw [← hy] at e2
    generalize (Rat.tell x y).1 = ra at *
    generalize (Rat.tell x y).2.1 = rb at *
    rw [hx] at e1
    rw [hy] at e2
    have e1' : IntKind.i64.wrap (v - d) = x := by rw [hx]; exact e1
    have e2' : IntKind.i64.wrap (d - l) = y := by rw [hy]; exact e2
    clear hv h1 h2 h3 h4 h5 h6 e1 e2 hx hy hlt
    go_enter Try.func24, Try.ntmps24
    go_wp2_with fail
    refine (HMk.out _).mono ?_
    rintro e w1 ⟨rfl, m1⟩
    have T1 := Lib.hid (T.out.call m1)
    clear m1 HMk T p1 p2 p3
    go_wp2_with fail
    refine (must_ok _ _ _).mono ?_
    rintro e w2 ⟨rfl, m2⟩
    have T2 := Lib.hid (T1.out.call m2)
    clear m2 T1
    obtain ⟨q0, q1, z0, z1⟩ := (T2.out.at 1 rfl).two
    go_wp2_with fail
    obtain ⟨r0, r1, M⟩ := told_end T2.out 1 rfl (.int .i64 ra) (.int .i64 rb)
    have HM := Lib.hid M
    clear M z0 z1 q0 q1
    generalize (w2.setCell ⟨w.heap.size + 1, 0, none⟩ (.int .i64 ra)).setCell ⟨w.heap.size + 1, 1, none⟩ (.int .i64 rb) = W3 at *
    exact bodyPost_ret (v := .agg #[.int .i64 ra, .int .i64 rb]) (by simp [results, Try.results24, go_sem, r0, r1]) rfl ⟨rfl, HM.out⟩
  · have k7 : decide (v < d) = false := decide_eq_false hlt
    by_cases hgt : d < v
    · have k8 : decide (d < v) = true := decide_eq_true hgt
      have hv : Vr.alongR v l d m = ((Rat.tell (v - d) (m - d)).1, (Rat.tell (v - d) (m - d)).2.1) := by unfold Vr.alongR; rw [if_neg hlt, if_pos hgt]
      rw [hv]
      have HMk := Lib.hid (fun W => make_any (v - d) (m - d) W (by omega) (by omega))
      rw [made_some (by omega) (by omega) (by omega)] at HMk
      have e1 : IntKind.i64.wrap (v - d) = v - d := IntWalk.i64_in _ (by omega)
      have e2 : IntKind.i64.wrap (m - d) = m - d := IntWalk.i64_in _ (by omega)
      obtain ⟨x, hx⟩ : ∃ x, x = v - d := ⟨_, rfl⟩
      obtain ⟨y, hy⟩ : ∃ y, y = m - d := ⟨_, rfl⟩
      rw [← hx, ← hy] at HMk ⊢
      rw [← hx] at e1
      rw [← hy] at e2
      generalize (Rat.tell x y).1 = ra at *
      generalize (Rat.tell x y).2.1 = rb at *
      rw [hx] at e1
      rw [hy] at e2
      have e1' : IntKind.i64.wrap (v - d) = x := by rw [hx]; exact e1
      have e2' : IntKind.i64.wrap (m - d) = y := by rw [hy]; exact e2
      clear hv h1 h2 h3 h4 h5 h6 e1 e2 hx hy hlt hgt
      go_enter Try.func24, Try.ntmps24
      go_wp2_with fail
      refine (HMk.out _).mono ?_
      rintro e w1 ⟨rfl, m1⟩
      have T1 := Lib.hid (T.out.call m1)
      clear m1 HMk T p1 p2 p3
      go_wp2_with fail
      refine (must_ok _ _ _).mono ?_
      rintro e w2 ⟨rfl, m2⟩
      have T2 := Lib.hid (T1.out.call m2)
      clear m2 T1
      obtain ⟨q0, q1, z0, z1⟩ := (T2.out.at 1 rfl).two
      go_wp2_with fail
      obtain ⟨r0, r1, M⟩ := told_end T2.out 1 rfl (.int .i64 ra) (.int .i64 rb)
      have HM := Lib.hid M
      clear M z0 z1 q0 q1
      generalize (w2.setCell ⟨w.heap.size + 1, 0, none⟩ (.int .i64 ra)).setCell ⟨w.heap.size + 1, 1, none⟩ (.int .i64 rb) = W3 at *
      exact bodyPost_ret (v := .agg #[.int .i64 ra, .int .i64 rb]) (by simp [results, Try.results24, go_sem, r0, r1]) rfl ⟨rfl, HM.out⟩
    · have k8 : decide (d < v) = false := decide_eq_false hgt
      have hv : Vr.alongR v l d m = (0, 1) := by unfold Vr.alongR; rw [if_neg hlt, if_neg hgt]
      rw [hv]
      clear hv h1 h2 h3 h4 h5 h6 hlt hgt
      go_enter Try.func24, Try.ntmps24
      go_wp2_with fail
      refine (wholeV_any _ _).mono ?_
      rintro e w2 ⟨rfl, m2⟩
      have T2 := Lib.hid (T.out.call m2)
      clear m2 T p1 p2 p3
      obtain ⟨q0, q1, z0, z1⟩ := (T2.out.at 1 rfl).two
      go_wp2_with fail
      obtain ⟨r0, r1, M⟩ := told_end T2.out 1 rfl (.int .i64 0) (.int .i64 1)
      have HM := Lib.hid M
      clear M z0 z1 q0 q1
      generalize (w2.setCell ⟨w.heap.size + 1, 0, none⟩ (.int .i64 0)).setCell ⟨w.heap.size + 1, 1, none⟩ (.int .i64 1) = W3 at *
      exact bodyPost_ret (v := .agg #[.int .i64 0, .int .i64 1]) (by simp [results, Try.results24, go_sem, r0, r1]) rfl ⟨rfl, HM.out⟩
set_option maxHeartbeats 2000000 in
theorem along_no (s : ByteArray) (v l d m : Int) (w : World) (h : ¬ Vr.onAxis v l d m) :
    Calls Try.prog 24 #[.agg #[.string s, .int .i64 l, .int .i64 d, .int .i64 m], .int .i64 v] w fun e w' => e = .panicked [{ v := .iface 33 (.int .i64 60), recovered := false }] ∧ Mod [] w w' := by
  have T := Lib.hid (own2 w #[.string s, .int .i64 l, .int .i64 d, .int .i64 m] 88 #[.int .i64 0, .int .i64 0] 68)
  obtain ⟨p1, p2, p3⟩ := axisBlk (T.out.at 0 rfl)
  have HM := Lib.hid T.out.mod
  unfold Vr.onAxis at h
  by_cases h0 : l < -16384
  · have k0 : decide (l < -16384) = true := decide_eq_true h0
    clear h T h0
    go_enter Try.func24, Try.ntmps24
    go_wp2_with fail
    exact ⟨rfl, rfl, HM.out⟩
  have k0 : decide (l < -16384) = false := decide_eq_false h0
  by_cases h1 : d < l
  · have k1 : decide (d < l) = true := decide_eq_true h1
    clear h T h0 h1
    go_enter Try.func24, Try.ntmps24
    go_wp2_with fail
    exact ⟨rfl, rfl, HM.out⟩
  have k1 : decide (d < l) = false := decide_eq_false h1
  by_cases h2 : m < d
  · have k2 : decide (m < d) = true := decide_eq_true h2
    clear h T h0 h1 h2
    go_enter Try.func24, Try.ntmps24
    go_wp2_with fail
    exact ⟨rfl, rfl, HM.out⟩
  have k2 : decide (m < d) = false := decide_eq_false h2
  by_cases h3 : 16384 < m
  · have k3 : decide (16384 < m) = true := decide_eq_true h3
    clear h T h0 h1 h2 h3
    go_enter Try.func24, Try.ntmps24
    go_wp2_with fail
    exact ⟨rfl, rfl, HM.out⟩
  have k3 : decide (16384 < m) = false := decide_eq_false h3
  by_cases h4 : v < l
  · have k4 : decide (v < l) = true := decide_eq_true h4
    clear h T h0 h1 h2 h3 h4
    go_enter Try.func24, Try.ntmps24
    go_wp2_with fail
    exact ⟨rfl, rfl, HM.out⟩
  have k4 : decide (v < l) = false := decide_eq_false h4
  by_cases h5 : m < v
  · have k5 : decide (m < v) = true := decide_eq_true h5
    clear h T h0 h1 h2 h3 h4 h5
    go_enter Try.func24, Try.ntmps24
    go_wp2_with fail
    exact ⟨rfl, rfl, HM.out⟩
  have k5 : decide (m < v) = false := decide_eq_false h5
  exact absurd ⟨by omega, by omega, by omega, by omega, by omega, by omega⟩ h
end Go.Proofs.Ytaloembfekdkoaa

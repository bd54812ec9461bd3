/- The reference's Plus. -/
import Derived.Test.YtngeijdfpgmcfaaBigNum
namespace Go.Proofs.Ytngeijdfpgmcfaa
open Go.RowKit
set_option maxRecDepth 100000
set_option linter.unusedVariables false

theorem Sl.form3 {w : World} {v : Value} {cs : List Value} (h : Sl w v cs) : ∃ oa n cap, v = .slice oa n cap := by
  obtain ⟨a, b, h⟩ := h.form
  exact ⟨a, _, b, h⟩
/-- A slice of digits, of which P holds. -/
def SlT (P : List Nat → Prop) (v : Value) (w : World) : Prop := ∃ out, Sl w v (out.map dcell) ∧ Big.Digits out ∧ P out
theorem SlT.stays (P : List Nat → Prop) (v : Value) : Stays (SlT P v) := fun _ _ ⟨out, h1, h2, h3⟩ m => ⟨out, h1.mod m, h2, h3⟩

set_option maxHeartbeats 1000000 in
theorem plus_num (u v : Value) (x y : Int) (w : World) (hu : NumZ w u x) (hv : NumZ w v y) (hx : (Big.dig x.natAbs).length ≤ 1000) (hy : (Big.dig y.natAbs).length ≤ 1000) :
    Calls Try.prog 69 #[u, v] w (NumPost (x + y) w) := by
  obtain ⟨oa, n, c, rfl, hs⟩ := hu.form
  obtain ⟨ob, n2, c2, rfl, hs2⟩ := hv.form
  have T := Lib.hid (own3 w #[.bool (decide (x < 0)), .slice oa n c] 99 #[.bool (decide (y < 0)), .slice ob n2 c2] 99 #[.bool false, .slice none 0 0] 99)
  have HS := Lib.hid hs
  have HS2 := Lib.hid hs2
  clear hu hv hs hs2
  by_cases hsame : decide (x < 0) = decide (y < 0)
  · have hz : Big.sgn (decide (x < 0)) (x.natAbs + y.natAbs) = x + y := by
      by_cases h : x < 0 <;> by_cases h' : y < 0 <;> simp [h, h'] at hsame <;> simp [Big.sgn, h] <;> omega
    have HP := Lib.hid (fun W (m : Mod [] w W) => plusD_any _ _ _ _ W (HS.out.mod m) (HS2.out.mod m) hx hy (Big.digits_dig _) (Big.digits_dig _))
    rw [Big.val_dig, Big.val_dig] at HP
    have HW := Lib.hid (fun out W s (h : Sl W s (out.map dcell)) (hd : Big.Digits out) (hvv : Big.val out = x.natAbs + y.natAbs) (hl : out.length ≤ 3000) => whole_any (decide (x < 0)) s out W h hl hd)
    have HZ := Lib.hid hz
    rw [← hsame] at T ⊢
    clear hz hsame
    generalize decide (x < 0) = bz at *
    have k0 : (bz == bz) = true := by cases bz <;> rfl
    go_enter Try.func69, Try.ntmps69
    go_wp2_with fail
    have A0 := (T.out.at 0 rfl).every
    have B0 := (T.out.at 1 rfl).every
    generalize eW : ((w.alloc (.cells #[.bool bz, .slice oa n c] 99)).alloc (.cells #[.bool bz, .slice ob n2 c2] 99)).alloc (.cells #[.bool false, .slice none 0 0] 99) = W at *
    clear eW
    refine wp_region_mask 7 [true, true, true, true, true, true, false] [(6, SlT (fun out => Big.val out = x.natAbs + y.natAbs ∧ out.length ≤ 3000))] (by kernel_rfl) (by kernel_rfl) (by simp [SlT.stays]) ?_
    simp only [pickM]
    refine steady_go (a' := ?_) (by kernel_rfl) ?_ (fun w' hw' K Q hK => ?_) ?_
    rotate_left 2
    · go_wp2_with fail; exact hK _ (Mod.refl _ _)
    rotate_left
    · rfl
    refine steady_go (a' := ?_) (by kernel_rfl) ?_ (fun w' hw' K Q hK => ?_) ?_
    rotate_left 2
    · go_wp2_with fail; exact hK _ (Mod.refl _ _)
    rotate_left
    · rfl
    refine steady_go (a' := ?_) (by kernel_rfl) ?_ (fun w' hw' K Q hK => ?_) ?_
    rotate_left 2
    · go_wp2_with fail; exact hK _ (Mod.refl _ _)
    rotate_left
    · rfl
    refine steady_go (a' := ?_) (by kernel_rfl) ?_ (fun w' hw' K Q hK => ?_) ?_
    rotate_left 2
    · go_wp2_with fail; exact hK _ (Mod.refl _ _)
    rotate_left
    · rfl
    refine steady_go (a' := ?_) (by kernel_rfl) ?_ (fun w' hw' K Q hK => ?_) ?_
    rotate_left 2
    · go_wp2_with fail; exact hK _ (Mod.refl _ _)
    rotate_left
    · rfl
    refine steady_go (a' := ?_) (by kernel_rfl) ?_ (fun w' hw' K Q hK => ?_) ?_
    rotate_left 2
    · go_wp2_with fail; exact hK _ (Mod.refl _ _)
    rotate_left
    · rfl
    refine steady_done ?_
    refine lates_one rfl rfl ?_ (fun v w' hw' => ?_)
    · refine late_go (f := fun v => Act.put _ _ v) (fun _ => rfl) (fun w' hw' K Q hK => ?_)
      dsimp only [List.getElem_toArray, List.getElem_cons_succ, List.getElem_cons_zero]
      go_wp2_with fail
      refine (HP.out _ (T.out.mod.then hw')).mono ?_
      rintro e w'' ⟨out, v, rfl, k1, k2, k3, ⟨k4, k5⟩, mm⟩
      go_wp2_with fail
      exact hK _ _ mm ⟨out, k1, k3, k4, by omega⟩
    rintro ⟨-, out, k1, k2, k3, k4⟩
    obtain ⟨oc, nn, cc, rfl⟩ := k1.form3
    simp only [List.drop_succ_cons, List.drop_zero]
    have T' := Lib.hid (T.out.call hw')
    have HC := Lib.hid (HW.out out w' _ k1 k2 k3 k4)
    rw [k3, HZ.out] at HC
    clear k1 k2 k3 k4 hw' A0 B0
    go_wp2_with fail
    refine HC.out.mono ?_
    rintro e w1 ⟨oa', n', c', rfl, h1, h2, m⟩
    have T2 := Lib.hid (T'.out.call m)
    obtain ⟨r0, r1, z0, z1⟩ := (T2.out.at 2 rfl).two
    have HR := Lib.hid (num_ret h1 h2 (T2.out.ge 2 rfl) (T'.out.lt 2 rfl) T2.out.mod (.bool (decide (x + y < 0))))
    generalize eb : decide (x + y < 0) = bz' at *
    have EB := Lib.hid eb
    clear h1 h2 m eb T T'
    go_wp2_with fail
    exact bodyPost_ret (v := .agg #[.bool bz', .slice oa' n' c']) (by simp [results, Try.results69, go_sem, r0, r1]) rfl ⟨oa', n', c', by rw [EB.out], HR.out⟩
  · have k0 : (decide (x < 0) == decide (y < 0)) = false := by simpa using hsame
    have HCm := Lib.hid (fun W (m : Mod [] w W) => compare_any _ _ _ _ W (HS.out.mod m) (HS2.out.mod m) hx hy (Big.digits_dig _) (Big.digits_dig _))
    by_cases hle : y.natAbs ≤ x.natAbs
    · have hz : Big.sgn (decide (x < 0)) (x.natAbs - y.natAbs) = x + y := by
        by_cases h : x < 0 <;> by_cases h' : y < 0 <;> simp [h, h'] at hsame <;> simp [Big.sgn, h] <;> omega
      have HP := Lib.hid (fun W (m : Mod [] w W) => lessD_any _ _ _ _ W (HS.out.mod m) (HS2.out.mod m) hx (Big.dig_length_mono hle) (Big.digits_dig _) (Big.digits_dig _) (by rw [Big.val_dig, Big.val_dig]; exact hle))
      rw [Big.val_dig, Big.val_dig] at HP
      have HW := Lib.hid (fun out W s (h : Sl W s (out.map dcell)) (hd : Big.Digits out) (hvv : Big.val out = x.natAbs - y.natAbs) (hl : out.length ≤ 3000) => whole_any (decide (x < 0)) s out W h hl hd)
      have HZ := Lib.hid hz
      have HLE := Lib.hid hle
      clear hz hsame hle
      generalize decide (x < 0) = bz at *
      generalize decide (y < 0) = by_ at *
      go_enter Try.func69, Try.ntmps69
      go_wp2_with fail
      refine (HCm.out _ T.out.mod).mono ?_
      rintro e w0 ⟨r, rfl, hr, hr1, hr2, rfl⟩
      have d1 : decide (0 ≤ r) = true := by simp; rw [hr, Big.val_dig, Big.val_dig]; exact HLE.out
      clear hr HCm
      go_wp2_with fail
      have A0 := (T.out.at 0 rfl).every
      have B0 := (T.out.at 1 rfl).every
      generalize eW : ((w.alloc (.cells #[.bool bz, .slice oa n c] 99)).alloc (.cells #[.bool by_, .slice ob n2 c2] 99)).alloc (.cells #[.bool false, .slice none 0 0] 99) = W at *
      clear eW
      refine wp_region_mask 7 [true, true, true, true, true, true, false] [(6, SlT (fun out => Big.val out = x.natAbs - y.natAbs ∧ out.length ≤ 3000))] (by kernel_rfl) (by kernel_rfl) (by simp [SlT.stays]) ?_
      simp only [pickM]
      refine steady_go (a' := ?_) (by kernel_rfl) ?_ (fun w' hw' K Q hK => ?_) ?_
      rotate_left 2
      · go_wp2_with fail; exact hK _ (Mod.refl _ _)
      rotate_left
      · rfl
      refine steady_go (a' := ?_) (by kernel_rfl) ?_ (fun w' hw' K Q hK => ?_) ?_
      rotate_left 2
      · go_wp2_with fail; exact hK _ (Mod.refl _ _)
      rotate_left
      · rfl
      refine steady_go (a' := ?_) (by kernel_rfl) ?_ (fun w' hw' K Q hK => ?_) ?_
      rotate_left 2
      · go_wp2_with fail; exact hK _ (Mod.refl _ _)
      rotate_left
      · rfl
      refine steady_go (a' := ?_) (by kernel_rfl) ?_ (fun w' hw' K Q hK => ?_) ?_
      rotate_left 2
      · go_wp2_with fail; exact hK _ (Mod.refl _ _)
      rotate_left
      · rfl
      refine steady_go (a' := ?_) (by kernel_rfl) ?_ (fun w' hw' K Q hK => ?_) ?_
      rotate_left 2
      · go_wp2_with fail; exact hK _ (Mod.refl _ _)
      rotate_left
      · rfl
      refine steady_go (a' := ?_) (by kernel_rfl) ?_ (fun w' hw' K Q hK => ?_) ?_
      rotate_left 2
      · go_wp2_with fail; exact hK _ (Mod.refl _ _)
      rotate_left
      · rfl
      refine steady_done ?_
      refine lates_one rfl rfl ?_ (fun v w' hw' => ?_)
      · refine late_go (f := fun v => Act.put _ _ v) (fun _ => rfl) (fun w' hw' K Q hK => ?_)
        dsimp only [List.getElem_toArray, List.getElem_cons_succ, List.getElem_cons_zero]
        go_wp2_with fail
        refine (HP.out _ (T.out.mod.then hw')).mono ?_
        rintro e w'' ⟨out, v, rfl, k1, k2, k3, ⟨k4, k5⟩, mm⟩
        go_wp2_with fail
        exact hK _ _ mm ⟨out, k1, k3, k4, by omega⟩
      rintro ⟨-, out, k1, k2, k3, k4⟩
      obtain ⟨oc, nn, cc, rfl⟩ := k1.form3
      simp only [List.drop_succ_cons, List.drop_zero]
      have T' := Lib.hid (T.out.call hw')
      have HC := Lib.hid (HW.out out w' _ k1 k2 k3 k4)
      rw [k3, HZ.out] at HC
      clear k1 k2 k3 k4 hw' A0 B0
      go_wp2_with fail
      refine HC.out.mono ?_
      rintro e w1 ⟨oa', n', c', rfl, h1, h2, m⟩
      have T2 := Lib.hid (T'.out.call m)
      obtain ⟨r0, r1, z0, z1⟩ := (T2.out.at 2 rfl).two
      have HR := Lib.hid (num_ret h1 h2 (T2.out.ge 2 rfl) (T'.out.lt 2 rfl) T2.out.mod (.bool (decide (x + y < 0))))
      generalize eb : decide (x + y < 0) = bz' at *
      have EB := Lib.hid eb
      clear h1 h2 m eb T T'
      go_wp2_with fail
      exact bodyPost_ret (v := .agg #[.bool bz', .slice oa' n' c']) (by simp [results, Try.results69, go_sem, r0, r1]) rfl ⟨oa', n', c', by rw [EB.out], HR.out⟩
    · have hz : Big.sgn (decide (y < 0)) (y.natAbs - x.natAbs) = x + y := by
        by_cases h : x < 0 <;> by_cases h' : y < 0 <;> simp [h, h'] at hsame <;> simp [Big.sgn, h'] <;> omega
      have HP := Lib.hid (fun W (m : Mod [] w W) => lessD_any _ _ _ _ W (HS2.out.mod m) (HS.out.mod m) hy (Big.dig_length_mono (by omega)) (Big.digits_dig _) (Big.digits_dig _) (by rw [Big.val_dig, Big.val_dig]; omega))
      rw [Big.val_dig, Big.val_dig] at HP
      have HW := Lib.hid (fun out W s (h : Sl W s (out.map dcell)) (hd : Big.Digits out) (hvv : Big.val out = y.natAbs - x.natAbs) (hl : out.length ≤ 3000) => whole_any (decide (y < 0)) s out W h hl hd)
      have HZ := Lib.hid hz
      have HLE := Lib.hid hle
      clear hz hsame hle
      generalize decide (x < 0) = bz at *
      generalize decide (y < 0) = by_ at *
      go_enter Try.func69, Try.ntmps69
      go_wp2_with fail
      refine (HCm.out _ T.out.mod).mono ?_
      rintro e w0 ⟨r, rfl, hr, hr1, hr2, rfl⟩
      have d1 : decide (0 ≤ r) = false := by
        rw [decide_eq_false_iff_not, hr, Big.val_dig, Big.val_dig]; exact HLE.out
      clear hr HCm
      go_wp2_with fail
      have A0 := (T.out.at 0 rfl).every
      have B0 := (T.out.at 1 rfl).every
      generalize eW : ((w.alloc (.cells #[.bool bz, .slice oa n c] 99)).alloc (.cells #[.bool by_, .slice ob n2 c2] 99)).alloc (.cells #[.bool false, .slice none 0 0] 99) = W at *
      clear eW
      refine wp_region_mask 7 [true, true, true, true, true, true, false] [(6, SlT (fun out => Big.val out = y.natAbs - x.natAbs ∧ out.length ≤ 3000))] (by kernel_rfl) (by kernel_rfl) (by simp [SlT.stays]) ?_
      simp only [pickM]
      refine steady_go (a' := ?_) (by kernel_rfl) ?_ (fun w' hw' K Q hK => ?_) ?_
      rotate_left 2
      · go_wp2_with fail; exact hK _ (Mod.refl _ _)
      rotate_left
      · rfl
      refine steady_go (a' := ?_) (by kernel_rfl) ?_ (fun w' hw' K Q hK => ?_) ?_
      rotate_left 2
      · go_wp2_with fail; exact hK _ (Mod.refl _ _)
      rotate_left
      · rfl
      refine steady_go (a' := ?_) (by kernel_rfl) ?_ (fun w' hw' K Q hK => ?_) ?_
      rotate_left 2
      · go_wp2_with fail; exact hK _ (Mod.refl _ _)
      rotate_left
      · rfl
      refine steady_go (a' := ?_) (by kernel_rfl) ?_ (fun w' hw' K Q hK => ?_) ?_
      rotate_left 2
      · go_wp2_with fail; exact hK _ (Mod.refl _ _)
      rotate_left
      · rfl
      refine steady_go (a' := ?_) (by kernel_rfl) ?_ (fun w' hw' K Q hK => ?_) ?_
      rotate_left 2
      · go_wp2_with fail; exact hK _ (Mod.refl _ _)
      rotate_left
      · rfl
      refine steady_go (a' := ?_) (by kernel_rfl) ?_ (fun w' hw' K Q hK => ?_) ?_
      rotate_left 2
      · go_wp2_with fail; exact hK _ (Mod.refl _ _)
      rotate_left
      · rfl
      refine steady_done ?_
      refine lates_one rfl rfl ?_ (fun v w' hw' => ?_)
      · refine late_go (f := fun v => Act.put _ _ v) (fun _ => rfl) (fun w' hw' K Q hK => ?_)
        dsimp only [List.getElem_toArray, List.getElem_cons_succ, List.getElem_cons_zero]
        go_wp2_with fail
        refine (HP.out _ (T.out.mod.then hw')).mono ?_
        rintro e w'' ⟨out, v, rfl, k1, k2, k3, ⟨k4, k5⟩, mm⟩
        go_wp2_with fail
        exact hK _ _ mm ⟨out, k1, k3, k4, by omega⟩
      rintro ⟨-, out, k1, k2, k3, k4⟩
      obtain ⟨oc, nn, cc, rfl⟩ := k1.form3
      simp only [List.drop_succ_cons, List.drop_zero]
      have T' := Lib.hid (T.out.call hw')
      have HC := Lib.hid (HW.out out w' _ k1 k2 k3 k4)
      rw [k3, HZ.out] at HC
      clear k1 k2 k3 k4 hw' A0 B0
      go_wp2_with fail
      refine HC.out.mono ?_
      rintro e w1 ⟨oa', n', c', rfl, h1, h2, m⟩
      have T2 := Lib.hid (T'.out.call m)
      obtain ⟨r0, r1, z0, z1⟩ := (T2.out.at 2 rfl).two
      have HR := Lib.hid (num_ret h1 h2 (T2.out.ge 2 rfl) (T'.out.lt 2 rfl) T2.out.mod (.bool (decide (x + y < 0))))
      generalize eb : decide (x + y < 0) = bz' at *
      have EB := Lib.hid eb
      clear h1 h2 m eb T T'
      go_wp2_with fail
      exact bodyPost_ret (v := .agg #[.bool bz', .slice oa' n' c']) (by simp [results, Try.results69, go_sem, r0, r1]) rfl ⟨oa', n', c', by rw [EB.out], HR.out⟩
end Go.Proofs.Ytngeijdfpgmcfaa

/- vary: grown, where nothing is given up. -/
import Derived.Test.YtngeijdfpgmcfaaVaryUnder
namespace Go.Proofs.Ytngeijdfpgmcfaa
open Go.RowKit
set_option linter.unusedVariables false

theorem make_one (n : Int) (h : -9223372036854775807 ≤ n ∧ n ≤ 9223372036854775807) : Rat.makeR n 1 = (n, 1, true) := by
  rw [Rat.makeR_tell, if_neg (by omega)]
  exact Rat.tell_of (by omega) ((Rat.rightB_iff _ _).2 ⟨by omega, by omega, by simp [Nat.Coprime]⟩) rfl (by omega) (by omega)

set_option maxHeartbeats 4000000 in
theorem grown_yes (sa sb n fa fb pa pb ra rb : Int) (w : World) (h1 : -9223372036854775808 ≤ sa ∧ sa ≤ 9223372036854775807) (h2 : -9223372036854775808 ≤ sb ∧ sb ≤ 9223372036854775807) (h3 : -9223372036854775807 ≤ n ∧ n ≤ 9223372036854775807)
    (h4 : -9223372036854775808 ≤ fa ∧ fa ≤ 9223372036854775807) (h5 : -9223372036854775808 ≤ fb ∧ fb ≤ 9223372036854775807) (h6 : -9223372036854775808 ≤ pa ∧ pa ≤ 9223372036854775807) (h7 : -9223372036854775808 ≤ pb ∧ pb ≤ 9223372036854775807)
    (hm : Rat.mulR n 1 fa fb = (pa, pb, true)) (ha : Rat.addR sa sb pa pb = (ra, rb, true)) :
    Calls Try.prog 61 #[.agg #[.int .i64 sa, .int .i64 sb], .int .i64 n, .agg #[.int .i64 fa, .int .i64 fb]] w fun e w' => e = .returned (.agg #[.int .i64 ra, .int .i64 rb]) ∧ Mod [] w w' := by
  have T := Lib.hid (own3 w #[.int .i64 sa, .int .i64 sb] 51 #[.int .i64 fa, .int .i64 fb] 51 #[.int .i64 0, .int .i64 0] 51)
  have HMk := Lib.hid (fun W => make_any n 1 W (by omega) (by omega))
  rw [make_one n h3] at HMk
  have HMu := Lib.hid (fun W => mul_any n 1 fa fb W (by omega) (by omega) h4 h5)
  rw [hm] at HMu
  have HAd := Lib.hid (fun W => add_any sa sb pa pb W h1 h2 h6 h7)
  rw [ha] at HAd
  have HA := Lib.hid (fun W => must_ok n 1 W)
  have HB := Lib.hid (fun W => must_ok pa pb W)
  clear hm ha h1 h2 h3 h4 h5 h6 h7
  go_enter Try.func61, Try.ntmps61
  go_upto_region 1 with fail
  generalize ((w.alloc (.cells #[.int .i64 sa, .int .i64 sb] 51)).alloc (.cells #[.int .i64 fa, .int .i64 fb] 51)).alloc (.cells #[.int .i64 0, .int .i64 0] 51) = W0 at *
  have A1 := (T.out.at 1 rfl).every
  refine wp_region_mask 11 [true, true, true, true, true, true, true, true, true, true, false] [(10, NewBlk W0.heap.size #[.int .i64 0, .int .i64 0] 51)] (by kernel_rfl) (by kernel_rfl) (by simp [NewBlk.stays]) ?_
  simp only [pickM]
  refine steady_go (a' := ?_) (by kernel_rfl) ?_ (fun w' hw' K Q hK => ?_) ?_
  rotate_left 2
  · go_wp2_with fail; exact hK _ (Mod.refl _ _)
  rotate_left
  · rfl
  refine steady_go (a' := ?_) (by kernel_rfl) ?_ (fun w' hw' K Q hK => ?_) ?_
  rotate_left 2
  · go_wp2_with fail
    refine ((calls_mod HMk.out) _ hw').mono ?_
    rintro e w'' ⟨rfl, m''⟩
    go_wp2_with fail
    exact hK _ m''
  rotate_left
  · rfl
  refine steady_go (a' := ?_) (by kernel_rfl) ?_ (fun w' hw' K Q hK => ?_) ?_
  rotate_left 2
  · go_wp2_with fail; exact hK _ (Mod.refl _ _)
  rotate_left
  · rfl
  refine steady_go (a' := ?_) (by kernel_rfl) ?_ (fun w' hw' K Q hK => ?_) ?_
  rotate_left 2
  · go_wp2_with fail; exact hK _ (Mod.refl _ _)
  rotate_left
  · rfl
  refine steady_go (a' := ?_) (by kernel_rfl) ?_ (fun w' hw' K Q hK => ?_) ?_
  rotate_left 2
  · go_wp2_with fail
    refine ((calls_mod HA.out) _ hw').mono ?_
    rintro e w'' ⟨rfl, m''⟩
    go_wp2_with fail
    exact hK _ m''
  rotate_left
  · rfl
  refine steady_go (a' := ?_) (by kernel_rfl) ?_ (fun w' hw' K Q hK => ?_) ?_
  rotate_left 2
  · go_wp2_with fail; exact hK _ (Mod.refl _ _)
  rotate_left
  · rfl
  refine steady_go (a' := ?_) (by kernel_rfl) ?_ (fun w' hw' K Q hK => ?_) ?_
  rotate_left 2
  · go_wp2_with fail
    refine ((calls_mod HMu.out) _ hw').mono ?_
    rintro e w'' ⟨rfl, m''⟩
    go_wp2_with fail
    exact hK _ m''
  rotate_left
  · rfl
  refine steady_go (a' := ?_) (by kernel_rfl) ?_ (fun w' hw' K Q hK => ?_) ?_
  rotate_left 2
  · go_wp2_with fail; exact hK _ (Mod.refl _ _)
  rotate_left
  · rfl
  refine steady_go (a' := ?_) (by kernel_rfl) ?_ (fun w' hw' K Q hK => ?_) ?_
  rotate_left 2
  · go_wp2_with fail; exact hK _ (Mod.refl _ _)
  rotate_left
  · rfl
  refine steady_go (a' := ?_) (by kernel_rfl) ?_ (fun w' hw' K Q hK => ?_) ?_
  rotate_left 2
  · go_wp2_with fail
    refine ((calls_mod HB.out) _ hw').mono ?_
    rintro e w'' ⟨rfl, m''⟩
    go_wp2_with fail
    exact hK _ m''
  rotate_left
  · rfl
  refine steady_done ?_
  refine lates_one rfl rfl (late_alloc ?_) (fun v w' hw' => ?_)
  · intro w'; go_simp
  rintro ⟨-, b7, rfl, hb7, B7⟩
  simp only [List.drop_succ_cons, List.drop_zero]
  have T2 := Lib.hid (T.out.new hw' hb7 B7)
  have T3 := Lib.hid ((T2.out.set 3 rfl 0 (.int .i64 pa)).set 3 rfl 1 (.int .i64 pb))
  obtain ⟨q0, q1, z0, z1⟩ := B7.two
  clear B7 hb7 hw' T A1 HMk HMu HA HB
  go_upto_region 2 with fail
  generalize (w'.setCell ⟨b7, 0, none⟩ (.int .i64 pa)).setCell ⟨b7, 1, none⟩ (.int .i64 pb) = W3 at *
  clear q0 q1 z0 z1 T2
  obtain ⟨p0, p1, -, -⟩ := (T3.out.at 0 rfl).two
  obtain ⟨q0, q1, -, -⟩ := (T3.out.at 3 rfl).two
  go_wp2_with fail
  refine (HAd.out _).mono ?_
  rintro e w4 ⟨rfl, m4⟩
  have T4 := Lib.hid (T3.out.call m4)
  clear m4 T3 p0 p1 q0 q1 HAd
  go_wp2_with fail
  refine (must_ok _ _ _).mono ?_
  rintro e w5 ⟨rfl, m5⟩
  have T5 := Lib.hid (T4.out.call m5)
  clear m5 T4
  obtain ⟨q0, q1, z0, z1⟩ := (T5.out.at 2 rfl).two
  go_wp2_with fail
  obtain ⟨r0, r1, M⟩ := told_end T5.out 2 rfl (.int .i64 ra) (.int .i64 rb)
  have HM := Lib.hid M
  clear M z0 z1 q0 q1
  generalize (w5.setCell ⟨w.heap.size + 1 + 1, 0, none⟩ (.int .i64 ra)).setCell ⟨w.heap.size + 1 + 1, 1, none⟩ (.int .i64 rb) = W9 at *
  exact bodyPost_ret (v := .agg #[.int .i64 ra, .int .i64 rb]) (by simp [results, Try.results61, go_sem, r0, r1]) rfl ⟨rfl, HM.out⟩
end Go.Proofs.Ytngeijdfpgmcfaa

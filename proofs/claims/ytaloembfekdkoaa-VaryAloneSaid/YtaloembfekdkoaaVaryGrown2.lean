/- vary: grown, whatever comes of it. -/
import Derived.Test.YtaloembfekdkoaaVaryGrown
import Derived.Test.YtaloembfekdkoaaVaryUnder2
import Derived.Test.YtaloembfekdkoaaVaryFactor
import Derived.Test.YtaloembfekdkoaaGKit
namespace Go.Proofs.Ytaloembfekdkoaa
open Go.RowKit
set_option linter.unusedVariables false
set_option maxRecDepth 100000
def Vr.grownR (s : Int × Int) (n : Int) (f : Int × Int) : Option (Int × Int) :=
  if (Rat.makeR n 1).2.2 = true then
    if (Rat.mulR (Rat.makeR n 1).1 (Rat.makeR n 1).2.1 f.1 f.2).2.2 = true then
      if (Rat.addR s.1 s.2 (Rat.mulR (Rat.makeR n 1).1 (Rat.makeR n 1).2.1 f.1 f.2).1 (Rat.mulR (Rat.makeR n 1).1 (Rat.makeR n 1).2.1 f.1 f.2).2.1).2.2 = true then
        some ((Rat.addR s.1 s.2 (Rat.mulR (Rat.makeR n 1).1 (Rat.makeR n 1).2.1 f.1 f.2).1 (Rat.mulR (Rat.makeR n 1).1 (Rat.makeR n 1).2.1 f.1 f.2).2.1).1, (Rat.addR s.1 s.2 (Rat.mulR (Rat.makeR n 1).1 (Rat.makeR n 1).2.1 f.1 f.2).1 (Rat.mulR (Rat.makeR n 1).1 (Rat.makeR n 1).2.1 f.1 f.2).2.1).2.1)
      else none
    else none
  else none
theorem makeR_one_in (n : Int) (h : I64 n) : (Rat.makeR n 1).1 = n ∧ (Rat.makeR n 1).2.1 = 1 ∨ (Rat.makeR n 1).2.2 = false := by
  by_cases h0 : n = -9223372036854775808
  · subst h0; right; decide +kernel
  · left
    unfold I64 at h
    rw [make_one n (by omega)]
    exact ⟨rfl, rfl⟩
theorem addR_in (a b c d : Int) : (-9223372036854775807 ≤ (Rat.addR a b c d).1 ∧ (Rat.addR a b c d).1 ≤ 9223372036854775807) ∧ (-9223372036854775807 ≤ (Rat.addR a b c d).2.1 ∧ (Rat.addR a b c d).2.1 ≤ 9223372036854775807) := by
  unfold Rat.addR
  split
  · exact toldR_in _ _ _
  · simp
theorem grownR_in {s : Int × Int} {n : Int} {f r : Int × Int} (h : Vr.grownR s n f = some r) : I64 r.1 ∧ I64 r.2 := by
  unfold Vr.grownR at h
  split at h
  · split at h
    · split at h
      · have e := Option.some.inj h
        subst e
        have := addR_in s.1 s.2 (Rat.mulR (Rat.makeR n 1).1 (Rat.makeR n 1).2.1 f.1 f.2).1 (Rat.mulR (Rat.makeR n 1).1 (Rat.makeR n 1).2.1 f.1 f.2).2.1
        unfold I64
        simp only
        omega
      · cases h
    · cases h
  · cases h
set_option maxHeartbeats 4000000 in
theorem grown_any (sa sb n fa fb : Int) (w : World) (h1 : I64 sa) (h2 : I64 sb) (h3 : I64 n) (h4 : I64 fa) (h5 : I64 fb) :
    Calls Try.prog 44 #[.agg #[.int .i64 sa, .int .i64 sb], .int .i64 n, .agg #[.int .i64 fa, .int .i64 fb]] w (UnderRes (Vr.grownR (sa, sb) n (fa, fb)) w) := by
  obtain ⟨rr, hr⟩ : ∃ rr, Vr.grownR (sa, sb) n (fa, fb) = rr := ⟨_, rfl⟩
  rw [hr]
  unfold Vr.grownR at hr
  simp only at hr
  have T := Lib.hid (own3 w #[.int .i64 sa, .int .i64 sb] 68 #[.int .i64 fa, .int .i64 fb] 68 #[.int .i64 0, .int .i64 0] 68)
  have HMk := Lib.hid (fun W => make_any n 1 W h3 (by omega))
  have hin := makeR_one_in n h3
  unfold I64 at h1 h2 h3 h4 h5
  generalize Rat.makeR n 1 = mk at *
  obtain ⟨ma, mb, mc⟩ := mk
  simp only at hr hin
  cases mc with
  | false =>
    simp only [Bool.false_eq_true, if_false] at hr
    subst hr
    have HN := Lib.hid (fun W => must_no ma mb W)
    clear h1 h2 h3 h4 h5 hin
    go_enter Try.func44, Try.ntmps44
    go_upto_region 1 with fail
    generalize ((w.alloc (.cells #[.int .i64 sa, .int .i64 sb] 68)).alloc (.cells #[.int .i64 fa, .int .i64 fb] 68)).alloc (.cells #[.int .i64 0, .int .i64 0] 68) = W0 at *
    have A1 := (T.out.at 1 rfl).every
    refine Dm.wp_region_doom [true, true, true, true, false, true, false, false, false, false, false, false] [10] 4 (fun c _ => c = [{ v := .iface 33 (.int .i64 3), recovered := false }]) (by kernel_rfl) rfl rfl (by kernel_rfl) ?hAlD69 ?hQ ?mainD69
    case hAlD69 => (intro i hi; simp only [List.mem_cons, List.not_mem_nil, or_false] at hi; rcases hi with rfl <;> (intro o ho; obtain rfl := Option.some.inj ho; first | exact ⟨#[.int .i64 0, .int .i64 0], 68, fun ρ w => by go_simp⟩))
    case mainD69 =>
      simp only [pickM]
      refine steady_go (a' := ?_) (by kernel_rfl) ?_ (fun w' hw' K Q hK => ?_) ?_
      rotate_left 2
      · go_wp2_with fail; exact hK _ (Mod.refl _ _)
      rotate_left
      · rfl
      refine steady_go (a' := ?_) (by kernel_rfl) ?_ (fun w' hw' K Q hK => ?_) ?_
      rotate_left 2
      · go_wp2_with fail
        refine ((calls_mod HMk.out) _ hw').mono ?_
        rintro e w'' ⟨rfl, m''⟩
        go_wp2_with fail
        exact hK _ m''
      rotate_left
      · rfl
      iterate 3
       refine steady_go (a' := ?_) (by kernel_rfl) ?_ (fun w' hw' K Q hK => ?_) ?_
       rotate_left 2
       · go_wp2_with fail; exact hK _ (Mod.refl _ _)
       rotate_left
       · rfl
      refine steady_done ?_
      intro w' hw'
      go_wp2_with fail
      refine (HN.out _).mono ?_
      rintro e w4 ⟨rfl, m4⟩
      go_wp2_with fail
      exact hw'.then m4
    case hQ =>
      intro c a' w' hG hm hc
      subst hc
      exact ⟨hG.defers, rfl, T.out.mod.then hm⟩
  | true =>
    obtain ⟨rfl, rfl⟩ := hin.resolve_right (by simp)
    simp only [if_true] at hr
    have HMu := Lib.hid (fun W => mul_any ma 1 fa fb W (by omega) (by omega) h4 h5)
    have hmi := mulR_in ma 1 fa fb
    have HA := Lib.hid (fun W => must_ok ma 1 W)
    generalize Rat.mulR ma 1 fa fb = mu at *
    obtain ⟨pa, pb, pc⟩ := mu
    simp only at hr hmi
    cases pc with
    | false =>
      simp only [Bool.false_eq_true, if_false] at hr
      subst hr
      have HN := Lib.hid (fun W => must_no pa pb W)
      clear h1 h2 h3 h4 h5 hin hmi
      go_enter Try.func44, Try.ntmps44
      go_upto_region 1 with fail
      generalize ((w.alloc (.cells #[.int .i64 sa, .int .i64 sb] 68)).alloc (.cells #[.int .i64 fa, .int .i64 fb] 68)).alloc (.cells #[.int .i64 0, .int .i64 0] 68) = W0 at *
      have A1 := (T.out.at 1 rfl).every
      refine Dm.wp_region_doom [true, true, true, true, true, true, true, true, true, false, false, false] [10] 9 (fun c _ => c = [{ v := .iface 33 (.int .i64 3), recovered := false }]) (by kernel_rfl) rfl rfl (by kernel_rfl) ?hAlD132 ?hQ ?mainD132
      case hAlD132 => (intro i hi; simp only [List.mem_cons, List.not_mem_nil, or_false] at hi; rcases hi with rfl <;> (intro o ho; obtain rfl := Option.some.inj ho; first | exact ⟨#[.int .i64 0, .int .i64 0], 68, fun ρ w => by go_simp⟩))
      case mainD132 =>
        simp only [pickM]
        refine steady_go (a' := ?_) (by kernel_rfl) ?_ (fun w' hw' K Q hK => ?_) ?_
        rotate_left 2
        · go_wp2_with fail; exact hK _ (Mod.refl _ _)
        rotate_left
        · rfl
        refine steady_go (a' := ?_) (by kernel_rfl) ?_ (fun w' hw' K Q hK => ?_) ?_
        rotate_left 2
        · go_wp2_with fail
          refine ((calls_mod HMk.out) _ hw').mono ?_
          rintro e w'' ⟨rfl, m''⟩
          go_wp2_with fail
          exact hK _ m''
        rotate_left
        · rfl
        iterate 2
         refine steady_go (a' := ?_) (by kernel_rfl) ?_ (fun w' hw' K Q hK => ?_) ?_
         rotate_left 2
         · go_wp2_with fail; exact hK _ (Mod.refl _ _)
         rotate_left
         · rfl
        refine steady_go (a' := ?_) (by kernel_rfl) ?_ (fun w' hw' K Q hK => ?_) ?_
        rotate_left 2
        · go_wp2_with fail
          refine ((calls_mod HA.out) _ hw').mono ?_
          rintro e w'' ⟨rfl, m''⟩
          go_wp2_with fail
          exact hK _ m''
        rotate_left
        · rfl
        refine steady_go (a' := ?_) (by kernel_rfl) ?_ (fun w' hw' K Q hK => ?_) ?_
        rotate_left 2
        · go_wp2_with fail; exact hK _ (Mod.refl _ _)
        rotate_left
        · rfl
        refine steady_go (a' := ?_) (by kernel_rfl) ?_ (fun w' hw' K Q hK => ?_) ?_
        rotate_left 2
        · go_wp2_with fail
          refine ((calls_mod HMu.out) _ hw').mono ?_
          rintro e w'' ⟨rfl, m''⟩
          go_wp2_with fail
          exact hK _ m''
        rotate_left
        · rfl
        iterate 2
         refine steady_go (a' := ?_) (by kernel_rfl) ?_ (fun w' hw' K Q hK => ?_) ?_
         rotate_left 2
         · go_wp2_with fail; exact hK _ (Mod.refl _ _)
         rotate_left
         · rfl
        refine steady_done ?_
        intro w' hw'
        go_wp2_with fail
        refine (HN.out _).mono ?_
        rintro e w4 ⟨rfl, m4⟩
        go_wp2_with fail
        exact hw'.then m4
      case hQ =>
        intro c a' w' hG hm hc
        subst hc
        exact ⟨hG.defers, rfl, T.out.mod.then hm⟩
    | true =>
      simp only [if_true] at hr
      have HAd := Lib.hid (fun W => add_any sa sb pa pb W h1 h2 (by omega) (by omega))
      have HB := Lib.hid (fun W => must_ok pa pb W)
      generalize Rat.addR sa sb pa pb = ad at *
      obtain ⟨ra, rb, rc⟩ := ad
      simp only at hr
      clear h1 h2 h3 h4 h5 hin hmi
      go_enter Try.func44, Try.ntmps44
      go_upto_region 1 with fail
      generalize ((w.alloc (.cells #[.int .i64 sa, .int .i64 sb] 68)).alloc (.cells #[.int .i64 fa, .int .i64 fb] 68)).alloc (.cells #[.int .i64 0, .int .i64 0] 68) = W0 at *
      have A1 := (T.out.at 1 rfl).every
      refine wp_region_mask 11 [true, true, true, true, true, true, true, true, true, true, false] [(10, NewBlk W0.heap.size #[.int .i64 0, .int .i64 0] 68)] (by kernel_rfl) (by kernel_rfl) (by simp [NewBlk.stays]) ?_
      simp only [pickM]
      refine steady_go (a' := ?_) (by kernel_rfl) ?_ (fun w' hw' K Q hK => ?_) ?_
      rotate_left 2
      · go_wp2_with fail; exact hK _ (Mod.refl _ _)
      rotate_left
      · rfl
      refine steady_go (a' := ?_) (by kernel_rfl) ?_ (fun w' hw' K Q hK => ?_) ?_
      rotate_left 2
      · go_wp2_with fail
        refine ((calls_mod HMk.out) _ hw').mono ?_
        rintro e w'' ⟨rfl, m''⟩
        go_wp2_with fail
        exact hK _ m''
      rotate_left
      · rfl
      iterate 2
       refine steady_go (a' := ?_) (by kernel_rfl) ?_ (fun w' hw' K Q hK => ?_) ?_
       rotate_left 2
       · go_wp2_with fail; exact hK _ (Mod.refl _ _)
       rotate_left
       · rfl
      refine steady_go (a' := ?_) (by kernel_rfl) ?_ (fun w' hw' K Q hK => ?_) ?_
      rotate_left 2
      · go_wp2_with fail
        refine ((calls_mod HA.out) _ hw').mono ?_
        rintro e w'' ⟨rfl, m''⟩
        go_wp2_with fail
        exact hK _ m''
      rotate_left
      · rfl
      refine steady_go (a' := ?_) (by kernel_rfl) ?_ (fun w' hw' K Q hK => ?_) ?_
      rotate_left 2
      · go_wp2_with fail; exact hK _ (Mod.refl _ _)
      rotate_left
      · rfl
      refine steady_go (a' := ?_) (by kernel_rfl) ?_ (fun w' hw' K Q hK => ?_) ?_
      rotate_left 2
      · go_wp2_with fail
        refine ((calls_mod HMu.out) _ hw').mono ?_
        rintro e w'' ⟨rfl, m''⟩
        go_wp2_with fail
        exact hK _ m''
      rotate_left
      · rfl
      iterate 2
       refine steady_go (a' := ?_) (by kernel_rfl) ?_ (fun w' hw' K Q hK => ?_) ?_
       rotate_left 2
       · go_wp2_with fail; exact hK _ (Mod.refl _ _)
       rotate_left
       · rfl
      refine steady_go (a' := ?_) (by kernel_rfl) ?_ (fun w' hw' K Q hK => ?_) ?_
      rotate_left 2
      · go_wp2_with fail
        refine ((calls_mod HB.out) _ hw').mono ?_
        rintro e w'' ⟨rfl, m''⟩
        go_wp2_with fail
        exact hK _ m''
      rotate_left
      · rfl
      refine steady_done ?_
      refine lates_one rfl rfl (late_alloc ?_) (fun v w' hw' => ?_)
      · intro w'; go_simp
      rintro ⟨-, b7, rfl, hb7, B7⟩
      simp only [List.drop_succ_cons, List.drop_zero]
      have T2 := Lib.hid (T.out.new hw' hb7 B7)
      have T3 := Lib.hid ((T2.out.set 3 rfl 0 (.int .i64 pa)).set 3 rfl 1 (.int .i64 pb))
      obtain ⟨q0, q1, z0, z1⟩ := B7.two
      clear B7 hb7 hw' T A1 HMk HMu HA HB
      go_upto_region 2 with fail
      generalize (w'.setCell ⟨b7, 0, none⟩ (.int .i64 pa)).setCell ⟨b7, 1, none⟩ (.int .i64 pb) = W3 at *
      clear q0 q1 z0 z1 T2
      obtain ⟨p0, p1, -, -⟩ := (T3.out.at 0 rfl).two
      obtain ⟨q0, q1, -, -⟩ := (T3.out.at 3 rfl).two
      go_wp2_with fail
      refine (HAd.out _).mono ?_
      rintro e w4 ⟨rfl, m4⟩
      have T4 := Lib.hid (T3.out.call m4)
      clear m4 T3 p0 p1 q0 q1 HAd
      go_wp2_with fail
      cases rc with
      | false =>
        simp only [Bool.false_eq_true, if_false] at hr
        subst hr
        refine (must_no _ _ _).mono ?_
        rintro e w5 ⟨rfl, m5⟩
        go_wp2_with fail
        exact ⟨rfl, rfl, (T4.out.call m5).mod⟩
      | true =>
        simp only [if_true] at hr
        subst hr
        refine (must_ok _ _ _).mono ?_
        rintro e w5 ⟨rfl, m5⟩
        have T5 := Lib.hid (T4.out.call m5)
        clear m5 T4
        obtain ⟨q0, q1, z0, z1⟩ := (T5.out.at 2 rfl).two
        go_wp2_with fail
        obtain ⟨r0, r1, M⟩ := told_end T5.out 2 rfl (.int .i64 ra) (.int .i64 rb)
        have HM := Lib.hid M
        clear M z0 z1 q0 q1
        generalize (w5.setCell ⟨w.heap.size + 1 + 1, 0, none⟩ (.int .i64 ra)).setCell ⟨w.heap.size + 1 + 1, 1, none⟩ (.int .i64 rb) = W9 at *
        exact bodyPost_ret (v := .agg #[.int .i64 ra, .int .i64 rb]) (by simp [results, Try.results44, go_sem, r0, r1]) rfl ⟨rfl, HM.out⟩
end Go.Proofs.Ytaloembfekdkoaa

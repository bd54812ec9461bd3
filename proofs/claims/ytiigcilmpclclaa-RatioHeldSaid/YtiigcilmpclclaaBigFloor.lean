/- The reference's Floor, Round and Cmp. -/
import Derived.Test.YtiigcilmpclclaaBigHalf
namespace Go.Proofs.Ytiigcilmpclclaa
open Go.RowKit
set_option linter.unusedVariables false

theorem floor_law {N D : Int} (hN : -9223372036854775808 ≤ N ∧ N ≤ 9223372036854775807) (hD : -9223372036854775808 ≤ D ∧ D ≤ 9223372036854775807) (hr : Rat.rightB N D = true) : 0 < D ∧ (Big.intR (N / D)).1 = Rat.floorR N D := by
  obtain ⟨h1, h2, _⟩ := (Rat.rightB_iff _ _).1 hr
  refine ⟨h1, ?_⟩
  rw [Rat.floorR_eq hr (by omega) (by omega)]
  have h3 := natAbs_ediv_le N D h1
  unfold Big.intR
  rw [if_pos (show (N / D).natAbs < 18446744073709551616 by omega)]
  exact IntWalk.i64_in _ (by omega)
theorem round_law {N D : Int} (hr : Rat.rightB N D = true) : 0 < D ∧ (Rat.fits (Rat.half N D)).1 = Rat.roundR N D := by
  obtain ⟨h1, h2, _⟩ := (Rat.rightB_iff _ _).1 hr
  refine ⟨h1, ?_⟩
  unfold Rat.roundR
  rw [if_pos hr, Rat.cut_half _ _ _ (by omega), Rat.sg_self, show ((D.natAbs : Nat) : Int) = D by omega]

theorem isV_post {r : Value} {w w' : World} {e : Ending} (h : e = .returned r ∧ Mod [] w w') : ∃ v, e = .returned v ∧ IsV r v w' ∧ Mod [] w w' := ⟨r, h.1, rfl, h.2⟩

set_option maxHeartbeats 2000000 in
theorem floorRef_any (N D : Int) (w : World) (hn : -9223372036854775808 ≤ N ∧ N ≤ 9223372036854775807) (hd : -9223372036854775808 ≤ D ∧ D ≤ 9223372036854775807) :
    Calls Try.prog 25 #[.agg #[.int .i64 N, .int .i64 D]] w fun e w' => e = .returned (.int .i64 (Rat.floorR N D)) ∧ Mod [] w w' := by
  have T := Lib.hid (own1 w #[.int .i64 N, .int .i64 D] 24)
  have HR := Lib.hid (fun W => rightRef_any N D W hn hd)
  have l1 := dig_i64 hn.1 hn.2
  have l2 := dig_i64 hd.1 hd.2
  have H1 := Lib.hid (of_v N hn.1 hn.2)
  have H2 := Lib.hid (of_v D hd.1 hd.2)
  obtain ⟨p0, p1, -, -⟩ := (T.out.at 0 rfl).two
  cases hr : Rat.rightB N D with
  | false =>
    rw [hr] at HR
    rw [show Rat.floorR N D = 0 by unfold Rat.floorR; rw [hr]; rfl]
    clear hr l1 l2 H1 H2 hn hd
    go_enter Try.func25, Try.ntmps25
    go_wp2_with fail
    refine (HR.out _).mono ?_
    rintro e w1 ⟨rfl, m1⟩
    have M1 := Lib.hid (T.out.mod.then m1)
    clear m1 p0 p1 T HR
    go_wp2_with fail
    go_ret
    exact ⟨rfl, M1.out⟩
  | true =>
    rw [hr] at HR
    obtain ⟨hD0, hfl⟩ := floor_law hn hd hr
    rw [← hfl]
    have H4 := Lib.hid (fun W j k (h : NumV N j W) (h' : NumV D k W) => parts_v h h' (by omega) (by omega) hD0)
    have lq : (Big.dig (N / D).natAbs).length ≤ 3000 := Nat.le_trans (Big.dig_length_mono (natAbs_ediv_le N D hD0)) (by omega)
    have HLQ := Lib.hid lq
    generalize N / D = q at *
    generalize N % D = r at *
    clear hr hfl hD0 l1 l2 lq hn hd
    generalize hi : Big.intR q = i at *
    have HI := Lib.hid hi
    obtain ⟨ia, ib⟩ := i
    clear hi
    go_enter Try.func25, Try.ntmps25
    go_wp2_with fail
    refine (HR.out _).mono ?_
    rintro e w1 ⟨rfl, m1⟩
    have T1 := Lib.hid (T.out.call m1)
    clear m1 p0 p1 T HR
    go_upto_region 3 with fail
    have A0 := (T1.out.at 0 rfl).every
    refine Ch.wp_region_chain [(9, 8), (12, 9)] ?l'1 12 [true, true, false, true, true, false, false, false, false, false, false, false] [(2, NumV N), (5, NumV D), (6, PairV q r), (7, PairV q r), (8, NumV q), (9, NumV r)] [(10, NewBlk (w1.heap.size) (#[.bool false, .slice none 0 0]) 54), (11, NewBlk (w1.heap.size) (#[.bool false, .slice none 0 0]) 54)] (by kernel_rfl) ?hl1 ?hB1 ?hT1 ?hsl1 ?hAl1 ?hQ1 ?main1
    case hl1 => simp only [Ch.waitsFor, waitFor, List.modify_succ_cons, List.modify_zero_cons]; exact rfl
    case hB1 => kernel_rfl
    case hT1 => simp [NewBlk.stays, NumV.stays, PairV.stays]
    case hsl1 => kernel_rfl
    case hAl1 => (intro i hi; simp only [List.map_cons, List.map_nil, List.mem_cons, List.not_mem_nil, or_false] at hi; rcases hi with rfl | rfl <;> (intro o ho; obtain rfl := Option.some.inj ho; first | exact ⟨#[.bool false, .slice none 0 0], 54, fun ρ w => by go_simp⟩))
    case hQ1 => (intro _ _ d _ _ h; cases d <;> exact h)
    simp only [pickM]
    refine steady_go (a' := ?_) (by kernel_rfl) ?_ (fun w' hw' K Q hK => ?_) ?_
    rotate_left 2
    · go_wp2_with fail; exact hK _ (Mod.refl _ _)
    rotate_left
    · rfl
    refine steady_go (a' := ?_) (by kernel_rfl) ?_ (fun w' hw' K Q hK => ?_) ?_
    rotate_left 2
    · go_wp2_with fail; exact hK _ (Mod.refl _ _)
    rotate_left
    · rfl
    refine steady_go (a' := ?_) (by kernel_rfl) ?_ (fun w' hw' K Q hK => ?_) ?_
    rotate_left 2
    · go_wp2_with fail; exact hK _ (Mod.refl _ _)
    rotate_left
    · rfl
    refine steady_go (a' := ?_) (by kernel_rfl) ?_ (fun w' hw' K Q hK => ?_) ?_
    rotate_left 2
    · go_wp2_with fail; exact hK _ (Mod.refl _ _)
    rotate_left
    · rfl
    refine steady_done ?_
    refine Ch.chain_go (f := ?_) rfl rfl (fun v => by simp only [Act.put]; (try simp only [List.setIfInBounds_toArray]); (try simp only [List.set_cons_succ, List.set_cons_zero]); exact rfl) (fun w' hw' hF K Q hK => ?_) (fun kv1 => ?_)
    · clear hF
      go_wp2_with fail
      refine (H1.out _).mono ?_
      rintro e w'' ⟨v, rfl, hv, mm⟩
      go_wp2_with fail
      exact hK _ _ mm hv
    refine Ch.chain_go (f := ?_) rfl rfl (fun v => by simp only [Act.put]; (try simp only [List.setIfInBounds_toArray]); (try simp only [List.set_cons_succ, List.set_cons_zero]); exact rfl) (fun w' hw' hF K Q hK => ?_) (fun kv2 => ?_)
    · clear hF
      go_wp2_with fail
      refine (H2.out _).mono ?_
      rintro e w'' ⟨v, rfl, hv, mm⟩
      go_wp2_with fail
      exact hK _ _ mm hv
    refine Ch.chain_go (f := ?_) rfl rfl (fun v => by simp only [Act.put]; (try simp only [List.setIfInBounds_toArray]); (try simp only [List.set_cons_succ, List.set_cons_zero]); exact rfl) (fun w' hw' hF K Q hK => ?_) (fun kv3 => ?_)
    · have hv0 := And.intro hF.1.2 hF.2; clear hF
      go_wp2_with fail
      refine (H4.out _ _ _ hv0.1 hv0.2).mono ?_
      rintro e w'' ⟨v, rfl, hv, mm⟩
      go_wp2_with fail
      exact hK _ _ mm hv
    refine Ch.chain_go (f := ?_) rfl rfl (fun v => by simp only [Act.put]; (try simp only [List.setIfInBounds_toArray]); (try simp only [List.set_cons_succ, List.set_cons_zero]); exact rfl) (fun w' hw' hF K Q hK => ?_) (fun kv4 => ?_)
    · refine PairV.elim (hF.2) (fun a b he k1 k2 => ?_)
      subst he; clear hF
      go_wp2_with fail
      exact hK _ _ (Mod.refl _ _) ⟨a, b, rfl, k1, k2⟩
    refine Ch.chain_go (f := ?_) rfl rfl (fun v => by simp only [Act.put]; (try simp only [List.setIfInBounds_toArray]); (try simp only [List.set_cons_succ, List.set_cons_zero]); exact rfl) (fun w' hw' hF K Q hK => ?_) (fun kv5 => ?_)
    · refine PairV.elim (hF.2) (fun a b he k1 k2 => ?_)
      subst he; clear hF
      go_wp2_with fail
      exact hK _ _ (Mod.refl _ _) k1
    refine Ch.chain_go (f := ?_) rfl rfl (fun v => by simp only [Act.put]; (try simp only [List.setIfInBounds_toArray]); (try simp only [List.set_cons_succ, List.set_cons_zero]); exact rfl) (fun w' hw' hF K Q hK => ?_) (fun kv6 => ?_)
    · refine PairV.elim (hF.1.2) (fun a b he k1 k2 => ?_)
      subst he; clear hF
      go_wp2_with fail
      exact hK _ _ (Mod.refl _ _) k2
    refine Ch.chain_end ?_
    refine Ch.lates_cons rfl rfl (late_alloc ?_) (fun v6 => ?_)
    · intro w'; go_simp
    refine Ch.lates_cons rfl rfl (late_alloc ?_) (fun v7 => ?_)
    · intro w'; go_simp
    refine lates_end (fun hD w' hw' hF => ?_)
    simp only [List.drop_succ_cons, List.drop_zero]
    refine NewBlk.elim hF.2 (fun b7 he9 hb9 B9 => ?_)
    refine NewBlk.elim hF.1.2 (fun b6 he8 hb8 B8 => ?_)
    refine NumV.elim hF.1.1.2 (fun ra rn rc he7 hr => ?_)
    refine NumV.elim hF.1.1.1.2 (fun pa pn pc he6 hp => ?_)
    clear hF
    subst he9 he8 he7 he6
    have hne : b6 ≠ b7 := fun he => hD.1 11 (by simp) (by subst he; kernel_rfl)
    clear hD
    obtain ⟨c0, c1, z0, z1⟩ := B8.two
    obtain ⟨d0, d1, y0, y1⟩ := B9.two
    obtain ⟨bq, hbq⟩ : ∃ b, b = decide (q < 0) := ⟨_, rfl⟩
    obtain ⟨br, hbr⟩ : ∃ b, b = decide (r < 0) := ⟨_, rfl⟩
    rw [← hbq, ← hbr]
    have HT := Lib.hid (two_boxes hw' hb8 hb9 hne B8 B9 hp (ra := ra) (rn := rn) (rc := rc) (x := bq) (y := br))
    have HBQ := Lib.hid hbq
    have hne' := hne.symm
    clear A0 B8 B9 hp hr hw' hb8 hb9 hbq hbr H1 H2 H4
    go_upto_region 4 with fail
    clear c0 c1 z0 z1 d0 d1 y0 y1 hne hne'
    obtain ⟨M8, B8, hp⟩ := HT.out
    have M9 := Lib.hid (T1.out.mod.then M8)
    have HP8 : Hid (NumV q (.agg #[.bool bq, .slice pa pn pc]) _) := Lib.hid (show NumZ _ _ q from ⟨_, by rw [HBQ.out], hp⟩)
    obtain ⟨p0, p1, -, -⟩ := B8.two
    clear HT M8 B8 hp T1 HBQ
    generalize (((w'.setCell ⟨b6, 0, none⟩ (.bool bq)).setCell ⟨b6, 1, none⟩ (.slice pa pn pc)).setCell ⟨b7, 0, none⟩ (.bool br)).setCell ⟨b7, 1, none⟩ (.slice ra rn rc) = W8 at *
    go_wp2_with fail
    refine (int_num _ q _ HP8.out HLQ.out).mono ?_
    rintro e w9 ⟨rfl, m9⟩
    have M10 := Lib.hid (M9.out.then m9)
    rw [HI.out]
    clear m9 M9 HP8 p0 p1 HI
    go_wp2_with fail
    go_ret
    exact ⟨rfl, M10.out⟩

set_option maxHeartbeats 2000000 in
theorem roundRef_any (N D : Int) (w : World) (hn : -9223372036854775808 ≤ N ∧ N ≤ 9223372036854775807) (hd : -9223372036854775808 ≤ D ∧ D ≤ 9223372036854775807) :
    Calls Try.prog 26 #[.agg #[.int .i64 N, .int .i64 D]] w fun e w' => e = .returned (.int .i64 (Rat.roundR N D)) ∧ Mod [] w w' := by
  have T := Lib.hid (own1 w #[.int .i64 N, .int .i64 D] 24)
  have HR := Lib.hid (fun W => rightRef_any N D W hn hd)
  have l1 := dig_i64 hn.1 hn.2
  have l2 := dig_i64 hd.1 hd.2
  have H1 := Lib.hid (of_v N hn.1 hn.2)
  have H2 := Lib.hid (of_v D hd.1 hd.2)
  obtain ⟨p0, p1, -, -⟩ := (T.out.at 0 rfl).two
  cases hr : Rat.rightB N D with
  | false =>
    rw [hr] at HR
    rw [show Rat.roundR N D = 0 by unfold Rat.roundR; rw [hr]; rfl]
    clear hr l1 l2 H1 H2 hn hd
    go_enter Try.func26, Try.ntmps26
    go_wp2_with fail
    refine (HR.out _).mono ?_
    rintro e w1 ⟨rfl, m1⟩
    have M1 := Lib.hid (T.out.mod.then m1)
    clear m1 p0 p1 T HR
    go_wp2_with fail
    go_ret
    exact ⟨rfl, M1.out⟩
  | true =>
    rw [hr] at HR
    obtain ⟨hD0, hfl⟩ := round_law hr
    rw [← hfl]
    have H4 := Lib.hid (fun W j k (h : NumV N j W) (h' : NumV D k W) => (half_any j k N D W h h' (by omega) (by omega) hD0).mono fun e w' (h : _ ∧ _) => isV_post h)
    generalize Rat.fits (Rat.half N D) = f at *
    obtain ⟨fa, fb⟩ := f
    clear hr hfl hD0 l1 l2 hn hd
    go_enter Try.func26, Try.ntmps26
    go_wp2_with fail
    refine (HR.out _).mono ?_
    rintro e w1 ⟨rfl, m1⟩
    have T1 := Lib.hid (T.out.call m1)
    clear m1 p0 p1 T HR
    go_upto_region 3 with fail
    have A0 := (T1.out.at 0 rfl).every
    refine Ch.wp_region_chain [(9, 8), (10, 9)] ?l'2 10 [true, true, false, true, true, false, false, false, false, false] [(2, NumV N), (5, NumV D), (6, IsV (.tuple #[.int .i64 fa, .bool fb])), (7, IsV (.tuple #[.int .i64 fa, .bool fb])), (8, IsV (.int .i64 fa)), (9, IsV (.bool fb))] [] (by kernel_rfl) ?hl2 ?hB2 ?hT2 ?hsl2 ?hAl2 ?hQ2 ?main2
    case hl2 => simp only [Ch.waitsFor, waitFor, List.modify_succ_cons, List.modify_zero_cons]; exact rfl
    case hB2 => kernel_rfl
    case hT2 => simp [IsV.stays, NumV.stays]
    case hsl2 => kernel_rfl
    case hAl2 => (intro i hi; cases hi)
    case hQ2 => (intro _ _ d _ _ h; cases d <;> exact h)
    simp only [pickM]
    refine steady_go (a' := ?_) (by kernel_rfl) ?_ (fun w' hw' K Q hK => ?_) ?_
    rotate_left 2
    · go_wp2_with fail; exact hK _ (Mod.refl _ _)
    rotate_left
    · rfl
    refine steady_go (a' := ?_) (by kernel_rfl) ?_ (fun w' hw' K Q hK => ?_) ?_
    rotate_left 2
    · go_wp2_with fail; exact hK _ (Mod.refl _ _)
    rotate_left
    · rfl
    refine steady_go (a' := ?_) (by kernel_rfl) ?_ (fun w' hw' K Q hK => ?_) ?_
    rotate_left 2
    · go_wp2_with fail; exact hK _ (Mod.refl _ _)
    rotate_left
    · rfl
    refine steady_go (a' := ?_) (by kernel_rfl) ?_ (fun w' hw' K Q hK => ?_) ?_
    rotate_left 2
    · go_wp2_with fail; exact hK _ (Mod.refl _ _)
    rotate_left
    · rfl
    refine steady_done ?_
    refine Ch.chain_go (f := ?_) rfl rfl (fun v => by simp only [Act.put]; (try simp only [List.setIfInBounds_toArray]); (try simp only [List.set_cons_succ, List.set_cons_zero]); exact rfl) (fun w' hw' hF K Q hK => ?_) (fun kv7 => ?_)
    · clear hF
      go_wp2_with fail
      refine (H1.out _).mono ?_
      rintro e w'' ⟨v, rfl, hv, mm⟩
      go_wp2_with fail
      exact hK _ _ mm hv
    refine Ch.chain_go (f := ?_) rfl rfl (fun v => by simp only [Act.put]; (try simp only [List.setIfInBounds_toArray]); (try simp only [List.set_cons_succ, List.set_cons_zero]); exact rfl) (fun w' hw' hF K Q hK => ?_) (fun kv8 => ?_)
    · clear hF
      go_wp2_with fail
      refine (H2.out _).mono ?_
      rintro e w'' ⟨v, rfl, hv, mm⟩
      go_wp2_with fail
      exact hK _ _ mm hv
    refine Ch.chain_go (f := ?_) rfl rfl (fun v => by simp only [Act.put]; (try simp only [List.setIfInBounds_toArray]); (try simp only [List.set_cons_succ, List.set_cons_zero]); exact rfl) (fun w' hw' hF K Q hK => ?_) (fun kv9 => ?_)
    · have hv0 := And.intro hF.1.2 hF.2; clear hF
      go_wp2_with fail
      refine (H4.out _ _ _ hv0.1 hv0.2).mono ?_
      rintro e w'' ⟨v, rfl, hv, mm⟩
      go_wp2_with fail
      exact hK _ _ mm hv
    refine Ch.chain_go (f := ?_) rfl rfl (fun v => by simp only [Act.put]; (try simp only [List.setIfInBounds_toArray]); (try simp only [List.set_cons_succ, List.set_cons_zero]); exact rfl) (fun w' hw' hF K Q hK => ?_) (fun kv10 => ?_)
    · refine IsV.elim (hF.2) (fun he => ?_)
      subst he; clear hF
      go_wp2_with fail
      exact hK _ _ (Mod.refl _ _) rfl
    refine Ch.chain_go (f := ?_) rfl rfl (fun v => by simp only [Act.put]; (try simp only [List.setIfInBounds_toArray]); (try simp only [List.set_cons_succ, List.set_cons_zero]); exact rfl) (fun w' hw' hF K Q hK => ?_) (fun kv11 => ?_)
    · refine IsV.elim (hF.2) (fun he => ?_)
      subst he; clear hF
      go_wp2_with fail
      exact hK _ _ (Mod.refl _ _) rfl
    refine Ch.chain_go (f := ?_) rfl rfl (fun v => by simp only [Act.put]; (try simp only [List.setIfInBounds_toArray]); (try simp only [List.set_cons_succ, List.set_cons_zero]); exact rfl) (fun w' hw' hF K Q hK => ?_) (fun kv12 => ?_)
    · refine IsV.elim (hF.1.2) (fun he => ?_)
      subst he; clear hF
      go_wp2_with fail
      exact hK _ _ (Mod.refl _ _) rfl
    refine Ch.chain_end ?_
    refine lates_end (fun hD w' hw' hF => ?_)
    simp only [List.drop_succ_cons, List.drop_zero]
    refine IsV.elim hF.2 (fun he9 => ?_)
    refine IsV.elim hF.1.2 (fun he8 => ?_)
    clear hF hD
    subst he9 he8
    have M1 := Lib.hid (T1.out.call hw').mod
    clear T1 H1 H2 H4 A0 hw'
    go_wp2_with fail
    go_ret
    exact ⟨rfl, M1.out⟩
end Go.Proofs.Ytiigcilmpclclaa

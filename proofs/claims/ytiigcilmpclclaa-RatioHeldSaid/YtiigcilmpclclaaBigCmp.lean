/- The reference's Cmp. -/
import Derived.Test.YtiigcilmpclclaaBigFloor
import Derived.Test.YtiigcilmpclclaaBigScale
namespace Go.Proofs.Ytiigcilmpclclaa
open Go.RowKit
set_option linter.unusedVariables false

theorem one_box {wr w' : World} (m : Mod [] wr w') {b8 : Nat} {t : TypeId} (h8 : wr.heap.size ≤ b8) (B8 : Blk w' b8 #[.bool false, .slice none 0 0] t) {pa : Option Addr} {pn pc : Nat} {x : Bool} :
    let W := (w'.setCell ⟨b8, 0, none⟩ (.bool x)).setCell ⟨b8, 1, none⟩ (.slice pa pn pc)
    Mod [] wr W ∧ Blk W b8 #[.bool x, .slice pa pn pc] t :=
  ⟨(m.setNew (p := ⟨b8, 0, none⟩) h8 _).setNew (p := ⟨b8, 1, none⟩) h8 _, (B8.set 0 (.bool x)).set 1 (.slice pa pn pc)⟩

set_option maxHeartbeats 8000000 in
theorem cmpRef_any (a b c d : Int) (w : World) (ha : -9223372036854775808 ≤ a ∧ a ≤ 9223372036854775807) (hb : -9223372036854775808 ≤ b ∧ b ≤ 9223372036854775807)
    (hc : -9223372036854775808 ≤ c ∧ c ≤ 9223372036854775807) (hd : -9223372036854775808 ≤ d ∧ d ≤ 9223372036854775807) :
    Calls Try.prog 23 #[.agg #[.int .i64 a, .int .i64 b], .agg #[.int .i64 c, .int .i64 d]] w fun e w' => e = .returned (.int .i64 (Rat.cmpR a b c d)) ∧ Mod [] w w' := by
  have T := Lib.hid (own2 w #[.int .i64 a, .int .i64 b] 24 #[.int .i64 c, .int .i64 d] 24)
  have HR := Lib.hid (fun W => rightRef_any a b W ha hb)
  have HR' := Lib.hid (fun W => rightRef_any c d W hc hd)
  have l1 := dig_i64 ha.1 ha.2
  have l2 := dig_i64 hb.1 hb.2
  have l3 := dig_i64 hc.1 hc.2
  have l4 := dig_i64 hd.1 hd.2
  have H1 := Lib.hid (of_v a ha.1 ha.2)
  have H2 := Lib.hid (of_v b hb.1 hb.2)
  have H3 := Lib.hid (of_v c hc.1 hc.2)
  have H4 := Lib.hid (of_v d hd.1 hd.2)
  obtain ⟨p0, p1, -, -⟩ := (T.out.at 0 rfl).two
  cases hr : Rat.rightB a b with
  | false =>
    rw [hr] at HR
    rw [show Rat.cmpR a b c d = 0 by unfold Rat.cmpR; rw [hr, if_neg (by simp)]]
    clear hr l1 l2 l3 l4 H1 H2 H3 H4 ha hb hc hd HR'
    go_enter Try.func23, Try.ntmps23
    go_wp2_with fail
    refine (HR.out _).mono ?_
    rintro e w1 ⟨rfl, m1⟩
    have M1 := Lib.hid (T.out.mod.then m1)
    clear m1 p0 p1 T HR
    go_wp2_with fail
    go_ret
    exact ⟨rfl, M1.out⟩
  | true =>
    rw [hr] at HR
    cases hr' : Rat.rightB c d with
    | false =>
      rw [hr'] at HR'
      rw [show Rat.cmpR a b c d = 0 by unfold Rat.cmpR; rw [hr', if_neg (by simp)]]
      clear hr hr' l1 l2 l3 l4 H1 H2 H3 H4 ha hb hc hd
      go_enter Try.func23, Try.ntmps23
      go_wp2_with fail
      refine (HR.out _).mono ?_
      rintro e w1 ⟨rfl, m1⟩
      have T1 := Lib.hid (T.out.call m1)
      clear m1 p0 p1 T HR
      obtain ⟨p0, p1, -, -⟩ := (T1.out.at 1 rfl).two
      go_wp2_with fail
      refine (HR'.out _).mono ?_
      rintro e w2 ⟨rfl, m2⟩
      have M1 := Lib.hid (T1.out.mod.then m2)
      clear m2 p0 p1 T1 HR'
      go_wp2_with fail
      go_ret
      exact ⟨rfl, M1.out⟩
    | true =>
      rw [hr'] at HR'
      have hz : Rat.cmpR a b c d = (a * d + -(c * b)).sign := by unfold Rat.cmpR; rw [if_pos ⟨hr, hr'⟩, Int.sub_eq_add_neg]
      rw [hz]
      have l5 := dig_mul l1 l4
      have l6 := dig_mul l3 l2
      have l7 := dig_neg l6
      have H5 := Lib.hid (fun W u v (hu : NumV a u W) (hv : NumV d v W) => times_v hu hv (by omega) (by omega))
      have H6 := Lib.hid (fun W u v (hu : NumV c u W) (hv : NumV b v W) => times_v hu hv (by omega) (by omega))
      have H7 := Lib.hid (fun W u (hu : NumV (c * b) u W) => neg_v hu (by omega))
      have H8 := Lib.hid (fun W u v (hu : NumV (a * d) u W) (hv : NumV (-(c * b)) v W) => plus_v hu hv (by omega) (by omega))
      clear hr hr' hz l1 l2 l3 l4 l5 l6 l7 ha hb hc hd
      generalize a * d = ad at *
      generalize c * b = cb at *
      generalize ad + -cb = z at *
      go_enter Try.func23, Try.ntmps23
      go_wp2_with fail
      refine (HR.out _).mono ?_
      rintro e w1 ⟨rfl, m1⟩
      have T1 := Lib.hid (T.out.call m1)
      clear m1 p0 p1 T HR
      obtain ⟨p0, p1, -, -⟩ := (T1.out.at 1 rfl).two
      go_wp2_with fail
      refine (HR'.out _).mono ?_
      rintro e w2 ⟨rfl, m2⟩
      have T2 := Lib.hid (T1.out.call m2)
      clear m2 p0 p1 T1 HR'
      go_upto_region 3 with fail
      have A0 := (T2.out.at 0 rfl).every
      have A1 := (T2.out.at 1 rfl).every
      refine Ch.wp_region_chain [] ?l'1 17 [true, true, false, true, true, false, false, true, true, false, true, true, false, false, false, false, false] [(2, NumV a), (5, NumV d), (6, NumV ad), (9, NumV c), (12, NumV b), (13, NumV cb), (14, NumV (-cb)), (15, NumV z)] [(16, NewBlk (w2.heap.size) (#[.bool false, .slice none 0 0]) 54)] (by kernel_rfl) ?hl1 ?hB1 ?hT1 ?hsl1 ?hAl1 ?hQ1 ?main1
      case hl1 => simp only [Ch.waitsFor]; exact rfl
      case hB1 => kernel_rfl
      case hT1 => simp [NewBlk.stays, NumV.stays]
      case hsl1 => kernel_rfl
      case hAl1 => (intro i hi; simp only [List.map_cons, List.map_nil, List.mem_cons, List.not_mem_nil, or_false] at hi; rcases hi with rfl <;> (intro o ho; obtain rfl := Option.some.inj ho; first | exact ⟨#[.bool false, .slice none 0 0], 54, fun ρ w => by go_simp⟩))
      case hQ1 => (intro _ _ d _ _ h; cases d <;> exact h)
      simp only [pickM]
      refine steady_go (a' := ?_) (by kernel_rfl) ?_ (fun w' hw' K Q hK => ?_) ?_
      rotate_left 2
      · go_wp2_with fail; exact hK _ (Mod.refl _ _)
      rotate_left
      · rfl
      refine steady_go (a' := ?_) (by kernel_rfl) ?_ (fun w' hw' K Q hK => ?_) ?_
      rotate_left 2
      · go_wp2_with fail; exact hK _ (Mod.refl _ _)
      rotate_left
      · rfl
      refine steady_go (a' := ?_) (by kernel_rfl) ?_ (fun w' hw' K Q hK => ?_) ?_
      rotate_left 2
      · go_wp2_with fail; exact hK _ (Mod.refl _ _)
      rotate_left
      · rfl
      refine steady_go (a' := ?_) (by kernel_rfl) ?_ (fun w' hw' K Q hK => ?_) ?_
      rotate_left 2
      · go_wp2_with fail; exact hK _ (Mod.refl _ _)
      rotate_left
      · rfl
      refine steady_go (a' := ?_) (by kernel_rfl) ?_ (fun w' hw' K Q hK => ?_) ?_
      rotate_left 2
      · go_wp2_with fail; exact hK _ (Mod.refl _ _)
      rotate_left
      · rfl
      refine steady_go (a' := ?_) (by kernel_rfl) ?_ (fun w' hw' K Q hK => ?_) ?_
      rotate_left 2
      · go_wp2_with fail; exact hK _ (Mod.refl _ _)
      rotate_left
      · rfl
      refine steady_go (a' := ?_) (by kernel_rfl) ?_ (fun w' hw' K Q hK => ?_) ?_
      rotate_left 2
      · go_wp2_with fail; exact hK _ (Mod.refl _ _)
      rotate_left
      · rfl
      refine steady_go (a' := ?_) (by kernel_rfl) ?_ (fun w' hw' K Q hK => ?_) ?_
      rotate_left 2
      · go_wp2_with fail; exact hK _ (Mod.refl _ _)
      rotate_left
      · rfl
      refine steady_done ?_
      refine Ch.chain_go (f := ?_) rfl rfl (fun v => by simp only [Act.put]; (try simp only [List.setIfInBounds_toArray]); (try simp only [List.set_cons_succ, List.set_cons_zero]); exact rfl) (fun w' hw' hF K Q hK => ?_) (fun kv1 => ?_)
      · clear hF
        go_wp2_with fail
        refine (H1.out _).mono ?_
        rintro e w'' ⟨v, rfl, hv, mm⟩
        go_wp2_with fail
        exact hK _ _ mm hv
      refine Ch.chain_go (f := ?_) rfl rfl (fun v => by simp only [Act.put]; (try simp only [List.setIfInBounds_toArray]); (try simp only [List.set_cons_succ, List.set_cons_zero]); exact rfl) (fun w' hw' hF K Q hK => ?_) (fun kv2 => ?_)
      · clear hF
        go_wp2_with fail
        refine (H4.out _).mono ?_
        rintro e w'' ⟨v, rfl, hv, mm⟩
        go_wp2_with fail
        exact hK _ _ mm hv
      refine Ch.chain_go (f := ?_) rfl rfl (fun v => by simp only [Act.put]; (try simp only [List.setIfInBounds_toArray]); (try simp only [List.set_cons_succ, List.set_cons_zero]); exact rfl) (fun w' hw' hF K Q hK => ?_) (fun kv3 => ?_)
      · have hv0 := And.intro hF.1.2 hF.2; clear hF
        go_wp2_with fail
        refine (H5.out _ _ _ hv0.1 hv0.2).mono ?_
        rintro e w'' ⟨v, rfl, hv, mm⟩
        go_wp2_with fail
        exact hK _ _ mm hv
      refine Ch.chain_go (f := ?_) rfl rfl (fun v => by simp only [Act.put]; (try simp only [List.setIfInBounds_toArray]); (try simp only [List.set_cons_succ, List.set_cons_zero]); exact rfl) (fun w' hw' hF K Q hK => ?_) (fun kv4 => ?_)
      · clear hF
        go_wp2_with fail
        refine (H3.out _).mono ?_
        rintro e w'' ⟨v, rfl, hv, mm⟩
        go_wp2_with fail
        exact hK _ _ mm hv
      refine Ch.chain_go (f := ?_) rfl rfl (fun v => by simp only [Act.put]; (try simp only [List.setIfInBounds_toArray]); (try simp only [List.set_cons_succ, List.set_cons_zero]); exact rfl) (fun w' hw' hF K Q hK => ?_) (fun kv5 => ?_)
      · clear hF
        go_wp2_with fail
        refine (H2.out _).mono ?_
        rintro e w'' ⟨v, rfl, hv, mm⟩
        go_wp2_with fail
        exact hK _ _ mm hv
      refine Ch.chain_go (f := ?_) rfl rfl (fun v => by simp only [Act.put]; (try simp only [List.setIfInBounds_toArray]); (try simp only [List.set_cons_succ, List.set_cons_zero]); exact rfl) (fun w' hw' hF K Q hK => ?_) (fun kv6 => ?_)
      · have hv0 := And.intro hF.1.2 hF.2; clear hF
        go_wp2_with fail
        refine (H6.out _ _ _ hv0.1 hv0.2).mono ?_
        rintro e w'' ⟨v, rfl, hv, mm⟩
        go_wp2_with fail
        exact hK _ _ mm hv
      refine Ch.chain_go (f := ?_) rfl rfl (fun v => by simp only [Act.put]; (try simp only [List.setIfInBounds_toArray]); (try simp only [List.set_cons_succ, List.set_cons_zero]); exact rfl) (fun w' hw' hF K Q hK => ?_) (fun kv7 => ?_)
      · have hv0 := hF.2; clear hF
        go_wp2_with fail
        refine (H7.out _ _ hv0).mono ?_
        rintro e w'' ⟨v, rfl, hv, mm⟩
        go_wp2_with fail
        exact hK _ _ mm hv
      refine Ch.chain_go (f := ?_) rfl rfl (fun v => by simp only [Act.put]; (try simp only [List.setIfInBounds_toArray]); (try simp only [List.set_cons_succ, List.set_cons_zero]); exact rfl) (fun w' hw' hF K Q hK => ?_) (fun kv8 => ?_)
      · have hv0 := And.intro hF.1.1.1.1.2 hF.2; clear hF
        go_wp2_with fail
        refine (H8.out _ _ _ hv0.1 hv0.2).mono ?_
        rintro e w'' ⟨v, rfl, hv, mm⟩
        go_wp2_with fail
        exact hK _ _ mm hv
      refine Ch.chain_end ?_
      refine Ch.lates_cons rfl rfl (late_alloc ?_) (fun v5 => ?_)
      · intro w'; go_simp
      refine lates_end (fun hD w' hw' hF => ?_)
      simp only [List.drop_succ_cons, List.drop_zero]
      refine NewBlk.elim hF.2 (fun b5 he9 hb9 B9 => ?_)
      refine NumV.elim hF.1.2 (fun xa xn xc he8 hx => ?_)
      clear hF hD
      subst he9 he8
      have hxn : xn = (Big.dig z.natAbs).length := by have := hx.len; simpa using this
      obtain ⟨bz, hbz⟩ : ∃ t, t = decide (z < 0) := ⟨_, rfl⟩
      rw [← hbz]
      obtain ⟨c0, c1, z0, z1⟩ := B9.two
      have HT := Lib.hid (one_box hw' hb9 B9 (pa := xa) (pn := xn) (pc := xc) (x := bz))
      have HZ := Lib.hid (And.intro hxn hbz)
      clear hxn hbz hx B9 hb9 hw' A0 A1 H1 H2 H3 H4 H5 H6 H7 H8
      go_upto_region 4 with fail
      obtain ⟨M8, B8⟩ := HT.out
      have M9 := Lib.hid (T2.out.mod.then M8)
      obtain ⟨p0, p1, -, -⟩ := B8.two
      clear HT M8 B8 c0 c1 z0 z1 T2
      generalize (w'.setCell ⟨b5, 0, none⟩ (.bool bz)).setCell ⟨b5, 1, none⟩ (.slice xa xn xc) = W5 at *
      by_cases h0 : z = 0
      · obtain rfl : xn = 0 := by rw [HZ.out.1, h0]; simp [Big.dig_zero]
        have e0 := Lib.hid h0
        clear h0 HZ
        go_wp2_with fail
        go_ret
        exact ⟨by rw [e0.out]; rfl, M9.out⟩
      · have hxn : ((xn : Int) == 0) = false := by
          have h1 := Big.dig_pos (m := z.natAbs) (by omega)
          have h2 := HZ.out.1
          rw [h1] at h2
          simp at h2
          simp; omega
        by_cases hneg : z < 0
        · obtain rfl : bz = true := by rw [HZ.out.2]; exact decide_eq_true hneg
          have e0 := Lib.hid hneg
          clear h0 HZ hneg
          go_wp2_with fail
          go_ret
          exact ⟨(by rw [Int.sign_eq_neg_one_of_neg e0.out]; rfl), M9.out⟩
        · obtain rfl : bz = false := by rw [HZ.out.2]; exact decide_eq_false hneg
          have e0 := Lib.hid (show 0 < z by omega)
          clear h0 HZ hneg
          go_wp2_with fail
          go_ret
          exact ⟨(by rw [Int.sign_eq_one_of_pos e0.out]; rfl), M9.out⟩
end Go.Proofs.Ytiigcilmpclclaa

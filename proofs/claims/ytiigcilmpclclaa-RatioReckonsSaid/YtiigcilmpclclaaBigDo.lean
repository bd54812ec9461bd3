/- The reference's Do. Printed by gen_do.py. -/
import Derived.Test.YtiigcilmpclclaaBigScale
namespace Go.Proofs.Ytiigcilmpclclaa
open Go.RowKit
set_option linter.unusedVariables false

/-- What Do tells. -/
def Rat.doN (k a b c d : Int) : Int := if k = 0 then a * d + c * b else if k = 1 then a * d + -(c * b) else if k = 2 then a * c else a * d
def Rat.doD (k a b c d : Int) : Int := if k = 3 then b * c else b * d
def Rat.doR (k a b c d : Int) : Int × Int × Bool := if Rat.rightB a b = true ∧ Rat.rightB c d = true then Rat.told (Rat.doN k a b c d) (Rat.doD k a b c d) else (0, 0, false)

set_option maxHeartbeats 16000000 in
theorem doRef_any (k a b c d : Int) (w : World) (hk : k = 0 ∨ k = 1 ∨ k = 2 ∨ k = 3) (ha : -9223372036854775808 ≤ a ∧ a ≤ 9223372036854775807) (hb : -9223372036854775808 ≤ b ∧ b ≤ 9223372036854775807)
    (hc : -9223372036854775808 ≤ c ∧ c ≤ 9223372036854775807) (hd : -9223372036854775808 ≤ d ∧ d ≤ 9223372036854775807) :
    Calls Try.prog 29 #[.int .i64 k, .agg #[.int .i64 a, .int .i64 b], .agg #[.int .i64 c, .int .i64 d]] w fun e w' => e = .returned (toldV (Rat.doR k a b c d)) ∧ Mod [] w w' := by
  have T := Lib.hid (own3 w #[.int .i64 a, .int .i64 b] 24 #[.int .i64 c, .int .i64 d] 24 #[.int .i64 0, .int .i64 0] 24)
  have HR := Lib.hid (fun W => rightRef_any a b W ha hb)
  have HR' := Lib.hid (fun W => rightRef_any c d W hc hd)
  have l1 := dig_i64 ha.1 ha.2
  have l2 := dig_i64 hb.1 hb.2
  have l3 := dig_i64 hc.1 hc.2
  have l4 := dig_i64 hd.1 hd.2
  have H1 := Lib.hid (of_v a ha.1 ha.2)
  have H2 := Lib.hid (of_v b hb.1 hb.2)
  have H3 := Lib.hid (of_v c hc.1 hc.2)
  have H4 := Lib.hid (of_v d hd.1 hd.2)
  obtain ⟨p0, p1, -, -⟩ := (T.out.at 0 rfl).two
  cases hr : Rat.rightB a b with
  | false =>
    rw [hr] at HR
    rw [show Rat.doR k a b c d = (0, 0, false) by unfold Rat.doR; rw [hr, if_neg (by simp)]]
    clear hr l1 l2 l3 l4 H1 H2 H3 H4 ha hb hc hd HR' hk
    go_enter Try.func29, Try.ntmps29
    go_wp2_with fail
    refine (HR.out _).mono ?_
    rintro e w1 ⟨rfl, m1⟩
    have T1 := Lib.hid (T.out.call m1)
    clear m1 p0 p1 T HR
    obtain ⟨q0, q1, z0, z1⟩ := (T1.out.at 2 rfl).two
    go_wp2_with fail
    obtain ⟨r0, r1, M⟩ := told_end T1.out 2 rfl (.int .i64 0) (.int .i64 0)
    have HM := Lib.hid M
    clear M z0 z1 q0 q1
    generalize (w1.setCell ⟨w.heap.size + 1 + 1, 0, none⟩ (.int .i64 0)).setCell ⟨w.heap.size + 1 + 1, 1, none⟩ (.int .i64 0) = W12 at *
    exact bodyPost_ret (v := toldV (0, 0, false)) (by simp [results, Try.results29, go_sem, toldV, r0, r1]) rfl ⟨rfl, HM.out⟩
  | true =>
    rw [hr] at HR
    cases hr' : Rat.rightB c d with
    | false =>
      rw [hr'] at HR'
      rw [show Rat.doR k a b c d = (0, 0, false) by unfold Rat.doR; rw [hr', if_neg (by simp)]]
      clear hr hr' l1 l2 l3 l4 H1 H2 H3 H4 ha hb hc hd hk
      go_enter Try.func29, Try.ntmps29
      go_wp2_with fail
      refine (HR.out _).mono ?_
      rintro e w1 ⟨rfl, m1⟩
      have T1 := Lib.hid (T.out.call m1)
      clear m1 p0 p1 T HR
      obtain ⟨p0, p1, -, -⟩ := (T1.out.at 1 rfl).two
      go_wp2_with fail
      refine (HR'.out _).mono ?_
      rintro e w2 ⟨rfl, m2⟩
      have T2 := Lib.hid (T1.out.call m2)
      clear m2 p0 p1 T1 HR'
      obtain ⟨q0, q1, z0, z1⟩ := (T2.out.at 2 rfl).two
      go_wp2_with fail
      obtain ⟨r0, r1, M⟩ := told_end T2.out 2 rfl (.int .i64 0) (.int .i64 0)
      have HM := Lib.hid M
      clear M z0 z1 q0 q1
      generalize (w2.setCell ⟨w.heap.size + 1 + 1, 0, none⟩ (.int .i64 0)).setCell ⟨w.heap.size + 1 + 1, 1, none⟩ (.int .i64 0) = W12 at *
      exact bodyPost_ret (v := toldV (0, 0, false)) (by simp [results, Try.results29, go_sem, toldV, r0, r1]) rfl ⟨rfl, HM.out⟩
    | true =>
    rw [hr'] at HR'
    rw [show Rat.doR k a b c d = Rat.told (Rat.doN k a b c d) (Rat.doD k a b c d) by unfold Rat.doR; rw [if_pos ⟨hr, hr'⟩]]
    have m1 := dig_mul l1 l4
    have m2 := dig_mul l3 l2
    have m3 := dig_mul l2 l4
    have m4 := dig_mul l1 l3
    have m5 := dig_mul l2 l3
    have m6 := dig_add m1 m2
    have m7 := dig_add m1 (dig_neg m2)
    have HX := Lib.hid (fun W u v (hu : NumV b u W) (hv : NumV d v W) => times_v hu hv (by omega) (by omega))
    have HX1 := Lib.hid (fun W u v (hu : NumV a u W) (hv : NumV d v W) => times_v hu hv (by omega) (by omega))
    have HX2 := Lib.hid (fun W u v (hu : NumV c u W) (hv : NumV b v W) => times_v hu hv (by omega) (by omega))
    have HX3 := Lib.hid (fun W u v (hu : NumV a u W) (hv : NumV c v W) => times_v hu hv (by omega) (by omega))
    have HX4 := Lib.hid (fun W u v (hu : NumV b u W) (hv : NumV c v W) => times_v hu hv (by omega) (by omega))
    have HN := Lib.hid (fun W u (hu : NumV (c * b) u W) => neg_v hu (by omega))
    have HP := Lib.hid (fun W u v (hu : NumV (a * d) u W) (hv : NumV (c * b) v W) => plus_v hu hv (by omega) (by omega))
    have HP' := Lib.hid (fun W u v (hu : NumV (a * d) u W) (hv : NumV (-(c * b)) v W) => plus_v hu hv (by omega) (by rw [Int.natAbs_neg]; omega))
    have HT : Hid (∀ W u v, NumV (Rat.doN k a b c d) u W → NumV (Rat.doD k a b c d) v W → Calls Try.prog 33 #[u, v] W fun e w' => ∃ r, e = .returned r ∧ IsV (toldV (Rat.told (Rat.doN k a b c d) (Rat.doD k a b c d))) r w' ∧ Mod [] W w') := by
      refine Lib.hid fun W u v hu hv => told_v hu hv ?_ ?_
      · rcases hk with rfl | rfl | rfl | rfl <;> simp [Rat.doN] <;> omega
      · rcases hk with rfl | rfl | rfl | rfl <;> simp [Rat.doD] <;> omega
    have HK := Lib.hid hk
    have HKN := Lib.hid (And.intro (show k = 0 → Rat.doN k a b c d = a * d + c * b ∧ Rat.doD k a b c d = b * d from fun h => by subst h; exact ⟨rfl, rfl⟩)
      (And.intro (show k = 1 → Rat.doN k a b c d = a * d + -(c * b) ∧ Rat.doD k a b c d = b * d from fun h => by subst h; exact ⟨rfl, rfl⟩)
      (And.intro (show k = 2 → Rat.doN k a b c d = a * c ∧ Rat.doD k a b c d = b * d from fun h => by subst h; exact ⟨rfl, rfl⟩)
      (show k = 3 → Rat.doN k a b c d = a * d ∧ Rat.doD k a b c d = b * c from fun h => by subst h; exact ⟨rfl, rfl⟩))))
    clear hr hr' l1 l2 l3 l4 m1 m2 m3 m4 m5 m6 m7 ha hb hc hd hk
    generalize Rat.doN k a b c d = dn at *
    generalize Rat.doD k a b c d = dd at *
    generalize Rat.told dn dd = r at *
    obtain ⟨ra, rb, rc⟩ := r
    unfold toldV at HT
    go_enter Try.func29, Try.ntmps29
    go_wp2_with fail
    refine (HR.out _).mono ?_
    rintro e w1 ⟨rfl, m1⟩
    have T1 := Lib.hid (T.out.call m1)
    clear m1 p0 p1 T HR
    obtain ⟨p0, p1, -, -⟩ := (T1.out.at 1 rfl).two
    go_wp2_with fail
    refine (HR'.out _).mono ?_
    rintro e w2 ⟨rfl, m2⟩
    have T2 := Lib.hid (T1.out.call m2)
    clear m2 p0 p1 T1 HR'
    obtain ⟨p0, p1, -, -⟩ := (T2.out.at 0 rfl).two
    go_wp2_with fail
    refine (H1.out _).mono ?_
    rintro e wk8 ⟨vk8, rfl, hk8, mk8⟩
    refine NumV.elim hk8 (fun a8 n8 c8 he hs => ?_)
    subst he
    obtain ⟨t8, ht8⟩ : ∃ t, t = decide (a < 0) := ⟨_, rfl⟩
    rw [← ht8] at hk8 ⊢
    have T8 := Lib.hid ((T2.out.call mk8).alloc #[.bool t8, .slice a8 n8 c8] 54)
    have N8 := Lib.hid (hk8.alloc (.cells #[.bool t8, .slice a8 n8 c8] 54))
    clear hk8 mk8 hs ht8 T2 p0 p1 
    go_upto_region 4 with fail
    generalize wk8.alloc (.cells #[.bool t8, .slice a8 n8 c8] 54) = W8 at *
    generalize wk8.heap.size = b8 at *
    obtain ⟨p0, p1, -, -⟩ := (T8.out.at 0 rfl).two
    go_wp2_with fail
    refine (H2.out _).mono ?_
    rintro e wk9 ⟨vk9, rfl, hk9, mk9⟩
    refine NumV.elim hk9 (fun a9 n9 c9 he hs => ?_)
    subst he
    obtain ⟨t9, ht9⟩ : ∃ t, t = decide (b < 0) := ⟨_, rfl⟩
    rw [← ht9] at hk9 ⊢
    have T9 := Lib.hid ((T8.out.call mk9).alloc #[.bool t9, .slice a9 n9 c9] 54)
    have N9 := Lib.hid (hk9.alloc (.cells #[.bool t9, .slice a9 n9 c9] 54))
    have N8' := Lib.hid ((N8.out.mod mk9).alloc (.cells #[.bool t9, .slice a9 n9 c9] 54))
    clear hk9 mk9 hs ht9 T8 p0 p1 N8
    go_upto_region 5 with fail
    generalize wk9.alloc (.cells #[.bool t9, .slice a9 n9 c9] 54) = W9 at *
    generalize wk9.heap.size = b9 at *
    have N8 := N8'
    clear N8'
    obtain ⟨p0, p1, -, -⟩ := (T9.out.at 1 rfl).two
    go_wp2_with fail
    refine (H3.out _).mono ?_
    rintro e wk10 ⟨vk10, rfl, hk10, mk10⟩
    refine NumV.elim hk10 (fun a10 n10 c10 he hs => ?_)
    subst he
    obtain ⟨t10, ht10⟩ : ∃ t, t = decide (c < 0) := ⟨_, rfl⟩
    rw [← ht10] at hk10 ⊢
    have T10 := Lib.hid ((T9.out.call mk10).alloc #[.bool t10, .slice a10 n10 c10] 54)
    have N10 := Lib.hid (hk10.alloc (.cells #[.bool t10, .slice a10 n10 c10] 54))
    have N8' := Lib.hid ((N8.out.mod mk10).alloc (.cells #[.bool t10, .slice a10 n10 c10] 54))
    have N9' := Lib.hid ((N9.out.mod mk10).alloc (.cells #[.bool t10, .slice a10 n10 c10] 54))
    clear hk10 mk10 hs ht10 T9 p0 p1 N8 N9
    go_upto_region 6 with fail
    generalize wk10.alloc (.cells #[.bool t10, .slice a10 n10 c10] 54) = W10 at *
    generalize wk10.heap.size = b10 at *
    have N8 := N8'
    clear N8'
    have N9 := N9'
    clear N9'
    obtain ⟨p0, p1, -, -⟩ := (T10.out.at 1 rfl).two
    go_wp2_with fail
    refine (H4.out _).mono ?_
    rintro e wk11 ⟨vk11, rfl, hk11, mk11⟩
    refine NumV.elim hk11 (fun a11 n11 c11 he hs => ?_)
    subst he
    obtain ⟨t11, ht11⟩ : ∃ t, t = decide (d < 0) := ⟨_, rfl⟩
    rw [← ht11] at hk11 ⊢
    have T11 := Lib.hid ((T10.out.call mk11).alloc #[.bool t11, .slice a11 n11 c11] 54)
    have N11 := Lib.hid (hk11.alloc (.cells #[.bool t11, .slice a11 n11 c11] 54))
    have N8' := Lib.hid ((N8.out.mod mk11).alloc (.cells #[.bool t11, .slice a11 n11 c11] 54))
    have N9' := Lib.hid ((N9.out.mod mk11).alloc (.cells #[.bool t11, .slice a11 n11 c11] 54))
    have N10' := Lib.hid ((N10.out.mod mk11).alloc (.cells #[.bool t11, .slice a11 n11 c11] 54))
    clear hk11 mk11 hs ht11 T10 p0 p1 N8 N9 N10
    go_upto_region 7 with fail
    generalize wk11.alloc (.cells #[.bool t11, .slice a11 n11 c11] 54) = W11 at *
    generalize wk11.heap.size = b11 at *
    have N8 := N8'
    clear N8'
    have N9 := N9'
    clear N9'
    have N10 := N10'
    clear N10'
    have T12 := Lib.hid (T11.out.alloc #[.bool false, .slice none 0 0] 54)
    have N8' := Lib.hid (N8.out.alloc (.cells #[.bool false, .slice none 0 0] 54))
    have N9' := Lib.hid (N9.out.alloc (.cells #[.bool false, .slice none 0 0] 54))
    have N10' := Lib.hid (N10.out.alloc (.cells #[.bool false, .slice none 0 0] 54))
    have N11' := Lib.hid (N11.out.alloc (.cells #[.bool false, .slice none 0 0] 54))
    clear T11 N8 N9 N10 N11 H1 H2 H3 H4
    go_upto_region 8 with fail
    generalize W11.alloc (.cells #[.bool false, .slice none 0 0] 54) = W12 at *
    generalize W11.heap.size = b12 at *
    obtain ⟨p0, p1, -, -⟩ := (T12.out.at 4 rfl).two
    obtain ⟨q0, q1, -, -⟩ := (T12.out.at 6 rfl).two
    go_wp2_with fail
    refine (HX.out _ _ _ N9'.out N11'.out).mono ?_
    rintro e wd ⟨vd, rfl, hvd, md⟩
    refine NumV.elim hvd (fun a13 n13 c13 he hs => ?_)
    subst he
    obtain ⟨t13, ht13⟩ : ∃ t, t = decide (b * d < 0) := ⟨_, rfl⟩
    rw [← ht13] at hvd ⊢
    have T13 := Lib.hid ((T12.out.call md).alloc #[.bool t13, .slice a13 n13 c13] 54)
    have N13 := Lib.hid (hvd.alloc (.cells #[.bool t13, .slice a13 n13 c13] 54))
    have N8 := Lib.hid ((N8'.out.mod md).alloc (.cells #[.bool t13, .slice a13 n13 c13] 54))
    have N9 := Lib.hid ((N9'.out.mod md).alloc (.cells #[.bool t13, .slice a13 n13 c13] 54))
    have N10 := Lib.hid ((N10'.out.mod md).alloc (.cells #[.bool t13, .slice a13 n13 c13] 54))
    have N11 := Lib.hid ((N11'.out.mod md).alloc (.cells #[.bool t13, .slice a13 n13 c13] 54))
    clear hvd md hs ht13 T12 p0 p1 q0 q1 HX N8' N9' N10' N11'
    go_upto_region 9 with fail
    generalize wd.alloc (.cells #[.bool t13, .slice a13 n13 c13] 54) = W13 at *
    generalize wd.heap.size = b13 at *
    rcases HK.out with hk0 | hk0 | hk0 | hk0
    · subst hk0
      obtain ⟨e1, e2⟩ := HKN.out.1 rfl
      subst e1 e2
      clear HKN HK
      go_upto_region 11 with fail
      have A8 := (T13.out.at 3 rfl).every
      have A9 := (T13.out.at 4 rfl).every
      have A10 := (T13.out.at 5 rfl).every
      have A11 := (T13.out.at 6 rfl).every
      refine Ch.wp_region_chain [] ?l'1 7 [true, true, false, true, true, false, false] [(2, NumV (a * d)), (5, NumV (c * b)), (6, NumV (a * d + c * b))] [] (by kernel_rfl) ?hl1 ?hB1 ?hT1 ?hsl1 ?hAl1 ?hQ1 ?main1
      case hl1 => simp only [Ch.waitsFor]; exact rfl
      case hB1 => kernel_rfl
      case hT1 => simp [NumV.stays]
      case hsl1 => kernel_rfl
      case hAl1 => (intro i hi; cases hi)
      case hQ1 => (intro _ _ d _ _ h; cases d <;> exact h)
      simp only [pickM]
      refine steady_go (a' := ?_) (by kernel_rfl) ?_ (fun w' hw' K Q hK => ?_) ?_
      rotate_left 2
      · go_wp2_with fail; exact hK _ (Mod.refl _ _)
      rotate_left
      · rfl
      refine steady_go (a' := ?_) (by kernel_rfl) ?_ (fun w' hw' K Q hK => ?_) ?_
      rotate_left 2
      · go_wp2_with fail; exact hK _ (Mod.refl _ _)
      rotate_left
      · rfl
      refine steady_go (a' := ?_) (by kernel_rfl) ?_ (fun w' hw' K Q hK => ?_) ?_
      rotate_left 2
      · go_wp2_with fail; exact hK _ (Mod.refl _ _)
      rotate_left
      · rfl
      refine steady_go (a' := ?_) (by kernel_rfl) ?_ (fun w' hw' K Q hK => ?_) ?_
      rotate_left 2
      · go_wp2_with fail; exact hK _ (Mod.refl _ _)
      rotate_left
      · rfl
      refine steady_done ?_
      refine Ch.chain_go (f := ?_) rfl rfl (fun v => by simp only [Act.put]; (try simp only [List.setIfInBounds_toArray]); (try simp only [List.set_cons_succ, List.set_cons_zero]); exact rfl) (fun w' hw' hF K Q hK => ?_) (fun kv1 => ?_)
      · clear hF
        go_wp2_with fail
        refine (HX1.out _ _ _ (N8.out.mod hw') (N11.out.mod hw')).mono ?_
        rintro e w'' ⟨v, rfl, hv, mm⟩
        go_wp2_with fail
        exact hK _ _ mm hv
      refine Ch.chain_go (f := ?_) rfl rfl (fun v => by simp only [Act.put]; (try simp only [List.setIfInBounds_toArray]); (try simp only [List.set_cons_succ, List.set_cons_zero]); exact rfl) (fun w' hw' hF K Q hK => ?_) (fun kv2 => ?_)
      · clear hF
        go_wp2_with fail
        refine (HX2.out _ _ _ (N10.out.mod hw') (N9.out.mod hw')).mono ?_
        rintro e w'' ⟨v, rfl, hv, mm⟩
        go_wp2_with fail
        exact hK _ _ mm hv
      refine Ch.chain_go (f := ?_) rfl rfl (fun v => by simp only [Act.put]; (try simp only [List.setIfInBounds_toArray]); (try simp only [List.set_cons_succ, List.set_cons_zero]); exact rfl) (fun w' hw' hF K Q hK => ?_) (fun kv3 => ?_)
      · have hv0 := And.intro hF.1.2 hF.2; clear hF
        go_wp2_with fail
        refine (HP.out _ _ _ hv0.1 hv0.2).mono ?_
        rintro e w'' ⟨v, rfl, hv, mm⟩
        go_wp2_with fail
        exact hK _ _ mm hv
      refine Ch.chain_end ?_
      refine lates_end (fun hD w' hw' hF => ?_)
      simp only [List.drop_succ_cons, List.drop_zero]
      have hvn := hF.2
      clear hF hD A8 A9 A10 A11
      have TW := Lib.hid (T13.out.call hw')
      have N13x := Lib.hid (N13.out.mod hw')
      clear T13 N13 N8 N9 N10 N11 hw' HX1 HX2 HX3 HX4 HN HP HP'
      refine NumV.elim hvn (fun as1 ns1 cs1 he hs => ?_)
      subst he
      obtain ⟨ts1, hts1⟩ : ∃ t, t = decide (a * d + c * b < 0) := ⟨_, rfl⟩
      rw [← hts1] at hvn ⊢
      have Ts1 := Lib.hid ((TW.out.set 7 rfl 0 (.bool ts1)).set 7 rfl 1 (.slice as1 ns1 cs1))
      have Ns1 := Lib.hid (hvn.box (TW.out.at 7 rfl) ts1 as1 ns1 cs1)
      have N13s1 := Lib.hid (N13x.out.box (TW.out.at 7 rfl) ts1 as1 ns1 cs1)
      obtain ⟨p0, p1, z0, z1⟩ := (TW.out.at 7 rfl).two
      clear hvn hs hts1 TW N13x
      go_upto_region 19 with fail
      clear p0 p1 z0 z1
      generalize (w'.setCell ⟨b12, 0, none⟩ (.bool ts1)).setCell ⟨b12, 1, none⟩ (.slice as1 ns1 cs1) = Ws1 at *
      obtain ⟨p0, p1, -, -⟩ := (Ts1.out.at 7 rfl).two
      obtain ⟨q0, q1, -, -⟩ := (Ts1.out.at 8 rfl).two
      go_wp2_with fail
      refine (HT.out _ _ _ Ns1.out N13s1.out).mono ?_
      rintro e wt ⟨vt, rfl, hvt, mt⟩
      have hvt' : vt = .tuple #[.agg #[.int .i64 ra, .int .i64 rb], .bool rc] := hvt
      subst hvt'
      have TE := Lib.hid ((Ts1.out.call mt).alloc #[.int .i64 ra, .int .i64 rb] 24)
      clear hvt mt p0 p1 q0 q1 Ts1 Ns1 N13s1 HT
      go_upto_region 20 with fail
      generalize wt.alloc (.cells #[.int .i64 ra, .int .i64 rb] 24) = WE at *
      generalize wt.heap.size = b14 at *
      obtain ⟨p0, p1, -, -⟩ := (TE.out.at 9 rfl).two
      obtain ⟨q0, q1, z0, z1⟩ := (TE.out.at 2 rfl).two
      go_wp2_with fail
      obtain ⟨r0, r1, M⟩ := told_end TE.out 2 rfl (.int .i64 ra) (.int .i64 rb)
      have HM := Lib.hid M
      clear M p0 p1 z0 z1 q0 q1 TE
      generalize (WE.setCell ⟨w.heap.size + 1 + 1, 0, none⟩ (.int .i64 ra)).setCell ⟨w.heap.size + 1 + 1, 1, none⟩ (.int .i64 rb) = WF at *
      exact bodyPost_ret (v := toldV (ra, rb, rc)) (by simp [results, Try.results29, go_sem, toldV, r0, r1]) rfl ⟨rfl, HM.out⟩
    · subst hk0
      obtain ⟨e1, e2⟩ := HKN.out.2.1 rfl
      subst e1 e2
      clear HKN HK
      go_upto_region 13 with fail
      have A8 := (T13.out.at 3 rfl).every
      have A9 := (T13.out.at 4 rfl).every
      have A10 := (T13.out.at 5 rfl).every
      have A11 := (T13.out.at 6 rfl).every
      refine Ch.wp_region_chain [] ?l'2 8 [true, true, false, true, true, false, false, false] [(2, NumV (a * d)), (5, NumV (c * b)), (6, NumV (-(c * b))), (7, NumV (a * d + -(c * b)))] [] (by kernel_rfl) ?hl2 ?hB2 ?hT2 ?hsl2 ?hAl2 ?hQ2 ?main2
      case hl2 => simp only [Ch.waitsFor]; exact rfl
      case hB2 => kernel_rfl
      case hT2 => simp [NumV.stays]
      case hsl2 => kernel_rfl
      case hAl2 => (intro i hi; cases hi)
      case hQ2 => (intro _ _ d _ _ h; cases d <;> exact h)
      simp only [pickM]
      refine steady_go (a' := ?_) (by kernel_rfl) ?_ (fun w' hw' K Q hK => ?_) ?_
      rotate_left 2
      · go_wp2_with fail; exact hK _ (Mod.refl _ _)
      rotate_left
      · rfl
      refine steady_go (a' := ?_) (by kernel_rfl) ?_ (fun w' hw' K Q hK => ?_) ?_
      rotate_left 2
      · go_wp2_with fail; exact hK _ (Mod.refl _ _)
      rotate_left
      · rfl
      refine steady_go (a' := ?_) (by kernel_rfl) ?_ (fun w' hw' K Q hK => ?_) ?_
      rotate_left 2
      · go_wp2_with fail; exact hK _ (Mod.refl _ _)
      rotate_left
      · rfl
      refine steady_go (a' := ?_) (by kernel_rfl) ?_ (fun w' hw' K Q hK => ?_) ?_
      rotate_left 2
      · go_wp2_with fail; exact hK _ (Mod.refl _ _)
      rotate_left
      · rfl
      refine steady_done ?_
      refine Ch.chain_go (f := ?_) rfl rfl (fun v => by simp only [Act.put]; (try simp only [List.setIfInBounds_toArray]); (try simp only [List.set_cons_succ, List.set_cons_zero]); exact rfl) (fun w' hw' hF K Q hK => ?_) (fun kv4 => ?_)
      · clear hF
        go_wp2_with fail
        refine (HX1.out _ _ _ (N8.out.mod hw') (N11.out.mod hw')).mono ?_
        rintro e w'' ⟨v, rfl, hv, mm⟩
        go_wp2_with fail
        exact hK _ _ mm hv
      refine Ch.chain_go (f := ?_) rfl rfl (fun v => by simp only [Act.put]; (try simp only [List.setIfInBounds_toArray]); (try simp only [List.set_cons_succ, List.set_cons_zero]); exact rfl) (fun w' hw' hF K Q hK => ?_) (fun kv5 => ?_)
      · clear hF
        go_wp2_with fail
        refine (HX2.out _ _ _ (N10.out.mod hw') (N9.out.mod hw')).mono ?_
        rintro e w'' ⟨v, rfl, hv, mm⟩
        go_wp2_with fail
        exact hK _ _ mm hv
      refine Ch.chain_go (f := ?_) rfl rfl (fun v => by simp only [Act.put]; (try simp only [List.setIfInBounds_toArray]); (try simp only [List.set_cons_succ, List.set_cons_zero]); exact rfl) (fun w' hw' hF K Q hK => ?_) (fun kv6 => ?_)
      · have hv0 := hF.2; clear hF
        go_wp2_with fail
        refine (HN.out _ _ hv0).mono ?_
        rintro e w'' ⟨v, rfl, hv, mm⟩
        go_wp2_with fail
        exact hK _ _ mm hv
      refine Ch.chain_go (f := ?_) rfl rfl (fun v => by simp only [Act.put]; (try simp only [List.setIfInBounds_toArray]); (try simp only [List.set_cons_succ, List.set_cons_zero]); exact rfl) (fun w' hw' hF K Q hK => ?_) (fun kv7 => ?_)
      · have hv0 := And.intro hF.1.1.2 hF.2; clear hF
        go_wp2_with fail
        refine (HP'.out _ _ _ hv0.1 hv0.2).mono ?_
        rintro e w'' ⟨v, rfl, hv, mm⟩
        go_wp2_with fail
        exact hK _ _ mm hv
      refine Ch.chain_end ?_
      refine lates_end (fun hD w' hw' hF => ?_)
      simp only [List.drop_succ_cons, List.drop_zero]
      have hvn := hF.2
      clear hF hD A8 A9 A10 A11
      have TW := Lib.hid (T13.out.call hw')
      have N13x := Lib.hid (N13.out.mod hw')
      clear T13 N13 N8 N9 N10 N11 hw' HX1 HX2 HX3 HX4 HN HP HP'
      refine NumV.elim hvn (fun as1 ns1 cs1 he hs => ?_)
      subst he
      obtain ⟨ts1, hts1⟩ : ∃ t, t = decide (a * d + -(c * b) < 0) := ⟨_, rfl⟩
      rw [← hts1] at hvn ⊢
      have Ts1 := Lib.hid ((TW.out.set 7 rfl 0 (.bool ts1)).set 7 rfl 1 (.slice as1 ns1 cs1))
      have Ns1 := Lib.hid (hvn.box (TW.out.at 7 rfl) ts1 as1 ns1 cs1)
      have N13s1 := Lib.hid (N13x.out.box (TW.out.at 7 rfl) ts1 as1 ns1 cs1)
      obtain ⟨p0, p1, z0, z1⟩ := (TW.out.at 7 rfl).two
      clear hvn hs hts1 TW N13x
      go_upto_region 19 with fail
      clear p0 p1 z0 z1
      generalize (w'.setCell ⟨b12, 0, none⟩ (.bool ts1)).setCell ⟨b12, 1, none⟩ (.slice as1 ns1 cs1) = Ws1 at *
      obtain ⟨p0, p1, -, -⟩ := (Ts1.out.at 7 rfl).two
      obtain ⟨q0, q1, -, -⟩ := (Ts1.out.at 8 rfl).two
      go_wp2_with fail
      refine (HT.out _ _ _ Ns1.out N13s1.out).mono ?_
      rintro e wt ⟨vt, rfl, hvt, mt⟩
      have hvt' : vt = .tuple #[.agg #[.int .i64 ra, .int .i64 rb], .bool rc] := hvt
      subst hvt'
      have TE := Lib.hid ((Ts1.out.call mt).alloc #[.int .i64 ra, .int .i64 rb] 24)
      clear hvt mt p0 p1 q0 q1 Ts1 Ns1 N13s1 HT
      go_upto_region 20 with fail
      generalize wt.alloc (.cells #[.int .i64 ra, .int .i64 rb] 24) = WE at *
      generalize wt.heap.size = b14 at *
      obtain ⟨p0, p1, -, -⟩ := (TE.out.at 9 rfl).two
      obtain ⟨q0, q1, z0, z1⟩ := (TE.out.at 2 rfl).two
      go_wp2_with fail
      obtain ⟨r0, r1, M⟩ := told_end TE.out 2 rfl (.int .i64 ra) (.int .i64 rb)
      have HM := Lib.hid M
      clear M p0 p1 z0 z1 q0 q1 TE
      generalize (WE.setCell ⟨w.heap.size + 1 + 1, 0, none⟩ (.int .i64 ra)).setCell ⟨w.heap.size + 1 + 1, 1, none⟩ (.int .i64 rb) = WF at *
      exact bodyPost_ret (v := toldV (ra, rb, rc)) (by simp [results, Try.results29, go_sem, toldV, r0, r1]) rfl ⟨rfl, HM.out⟩
    · subst hk0
      obtain ⟨e1, e2⟩ := HKN.out.2.2.1 rfl
      subst e1 e2
      clear HKN HK
      obtain ⟨p0, p1, -, -⟩ := (T13.out.at 3 rfl).two
      obtain ⟨q0, q1, -, -⟩ := (T13.out.at 5 rfl).two
      go_wp2_with fail
      refine (HX3.out _ _ _ N8.out N10.out).mono ?_
      rintro e wm ⟨vm, rfl, hvn, mm⟩
      have TW := Lib.hid (T13.out.call mm)
      have N13x := Lib.hid (N13.out.mod mm)
      clear T13 N13 N8 N9 N10 N11 mm p0 p1 q0 q1 HX1 HX2 HX3 HX4 HN HP HP'
      refine NumV.elim hvn (fun as1 ns1 cs1 he hs => ?_)
      subst he
      obtain ⟨ts1, hts1⟩ : ∃ t, t = decide (a * c < 0) := ⟨_, rfl⟩
      rw [← hts1] at hvn ⊢
      have Ts1 := Lib.hid ((TW.out.set 7 rfl 0 (.bool ts1)).set 7 rfl 1 (.slice as1 ns1 cs1))
      have Ns1 := Lib.hid (hvn.box (TW.out.at 7 rfl) ts1 as1 ns1 cs1)
      have N13s1 := Lib.hid (N13x.out.box (TW.out.at 7 rfl) ts1 as1 ns1 cs1)
      obtain ⟨p0, p1, z0, z1⟩ := (TW.out.at 7 rfl).two
      clear hvn hs hts1 TW N13x
      go_upto_region 19 with fail
      clear p0 p1 z0 z1
      generalize (wm.setCell ⟨b12, 0, none⟩ (.bool ts1)).setCell ⟨b12, 1, none⟩ (.slice as1 ns1 cs1) = Ws1 at *
      obtain ⟨p0, p1, -, -⟩ := (Ts1.out.at 7 rfl).two
      obtain ⟨q0, q1, -, -⟩ := (Ts1.out.at 8 rfl).two
      go_wp2_with fail
      refine (HT.out _ _ _ Ns1.out N13s1.out).mono ?_
      rintro e wt ⟨vt, rfl, hvt, mt⟩
      have hvt' : vt = .tuple #[.agg #[.int .i64 ra, .int .i64 rb], .bool rc] := hvt
      subst hvt'
      have TE := Lib.hid ((Ts1.out.call mt).alloc #[.int .i64 ra, .int .i64 rb] 24)
      clear hvt mt p0 p1 q0 q1 Ts1 Ns1 N13s1 HT
      go_upto_region 20 with fail
      generalize wt.alloc (.cells #[.int .i64 ra, .int .i64 rb] 24) = WE at *
      generalize wt.heap.size = b14 at *
      obtain ⟨p0, p1, -, -⟩ := (TE.out.at 9 rfl).two
      obtain ⟨q0, q1, z0, z1⟩ := (TE.out.at 2 rfl).two
      go_wp2_with fail
      obtain ⟨r0, r1, M⟩ := told_end TE.out 2 rfl (.int .i64 ra) (.int .i64 rb)
      have HM := Lib.hid M
      clear M p0 p1 z0 z1 q0 q1 TE
      generalize (WE.setCell ⟨w.heap.size + 1 + 1, 0, none⟩ (.int .i64 ra)).setCell ⟨w.heap.size + 1 + 1, 1, none⟩ (.int .i64 rb) = WF at *
      exact bodyPost_ret (v := toldV (ra, rb, rc)) (by simp [results, Try.results29, go_sem, toldV, r0, r1]) rfl ⟨rfl, HM.out⟩
    · subst hk0
      obtain ⟨e1, e2⟩ := HKN.out.2.2.2 rfl
      subst e1 e2
      clear HKN HK
      obtain ⟨p0, p1, -, -⟩ := (T13.out.at 3 rfl).two
      obtain ⟨q0, q1, -, -⟩ := (T13.out.at 6 rfl).two
      go_wp2_with fail
      refine (HX1.out _ _ _ N8.out N11.out).mono ?_
      rintro e wm ⟨vm, rfl, hvn, mm⟩
      have TW := Lib.hid (T13.out.call mm)
      have N9x := Lib.hid (N9.out.mod mm)
      have N10x := Lib.hid (N10.out.mod mm)
      clear T13 N13 N8 N9 N10 N11 mm p0 p1 q0 q1 HX1 HX2 HX3 HN HP HP'
      refine NumV.elim hvn (fun as1 ns1 cs1 he hs => ?_)
      subst he
      obtain ⟨ts1, hts1⟩ : ∃ t, t = decide (a * d < 0) := ⟨_, rfl⟩
      rw [← hts1] at hvn ⊢
      have Ts1 := Lib.hid ((TW.out.set 7 rfl 0 (.bool ts1)).set 7 rfl 1 (.slice as1 ns1 cs1))
      have Ns1 := Lib.hid (hvn.box (TW.out.at 7 rfl) ts1 as1 ns1 cs1)
      have N9s1 := Lib.hid (N9x.out.box (TW.out.at 7 rfl) ts1 as1 ns1 cs1)
      have N10s1 := Lib.hid (N10x.out.box (TW.out.at 7 rfl) ts1 as1 ns1 cs1)
      obtain ⟨p0, p1, z0, z1⟩ := (TW.out.at 7 rfl).two
      clear hvn hs hts1 TW N9x N10x
      go_upto_region 18 with fail
      clear p0 p1 z0 z1
      generalize (wm.setCell ⟨b12, 0, none⟩ (.bool ts1)).setCell ⟨b12, 1, none⟩ (.slice as1 ns1 cs1) = Ws1 at *
      obtain ⟨p0, p1, -, -⟩ := (Ts1.out.at 4 rfl).two
      obtain ⟨q0, q1, -, -⟩ := (Ts1.out.at 5 rfl).two
      go_wp2_with fail
      refine (HX4.out _ _ _ N9s1.out N10s1.out).mono ?_
      rintro e wn ⟨vn, rfl, hvm, mn⟩
      have TW := Lib.hid (Ts1.out.call mn)
      have Ns1x := Lib.hid (Ns1.out.mod mn)
      clear Ts1 Ns1 N9s1 N10s1 mn p0 p1 q0 q1 HX4
      refine NumV.elim hvm (fun au1 nu1 cu1 he hs => ?_)
      subst he
      obtain ⟨tu1, htu1⟩ : ∃ t, t = decide (b * c < 0) := ⟨_, rfl⟩
      rw [← htu1] at hvm ⊢
      have Tu1 := Lib.hid ((TW.out.set 8 rfl 0 (.bool tu1)).set 8 rfl 1 (.slice au1 nu1 cu1))
      have Nu1 := Lib.hid (hvm.box (TW.out.at 8 rfl) tu1 au1 nu1 cu1)
      have Ns1u1 := Lib.hid (Ns1x.out.box (TW.out.at 8 rfl) tu1 au1 nu1 cu1)
      obtain ⟨p0, p1, z0, z1⟩ := (TW.out.at 8 rfl).two
      clear hvm hs htu1 TW Ns1x
      go_upto_region 19 with fail
      clear p0 p1 z0 z1
      generalize (wn.setCell ⟨b13, 0, none⟩ (.bool tu1)).setCell ⟨b13, 1, none⟩ (.slice au1 nu1 cu1) = Wu1 at *
      obtain ⟨p0, p1, -, -⟩ := (Tu1.out.at 7 rfl).two
      obtain ⟨q0, q1, -, -⟩ := (Tu1.out.at 8 rfl).two
      go_wp2_with fail
      refine (HT.out _ _ _ Ns1u1.out Nu1.out).mono ?_
      rintro e wt ⟨vt, rfl, hvt, mt⟩
      have hvt' : vt = .tuple #[.agg #[.int .i64 ra, .int .i64 rb], .bool rc] := hvt
      subst hvt'
      have TE := Lib.hid ((Tu1.out.call mt).alloc #[.int .i64 ra, .int .i64 rb] 24)
      clear hvt mt p0 p1 q0 q1 Tu1 Ns1u1 Nu1 HT
      go_upto_region 20 with fail
      generalize wt.alloc (.cells #[.int .i64 ra, .int .i64 rb] 24) = WE at *
      generalize wt.heap.size = b14 at *
      obtain ⟨p0, p1, -, -⟩ := (TE.out.at 9 rfl).two
      obtain ⟨q0, q1, z0, z1⟩ := (TE.out.at 2 rfl).two
      go_wp2_with fail
      obtain ⟨r0, r1, M⟩ := told_end TE.out 2 rfl (.int .i64 ra) (.int .i64 rb)
      have HM := Lib.hid M
      clear M p0 p1 z0 z1 q0 q1 TE
      generalize (WE.setCell ⟨w.heap.size + 1 + 1, 0, none⟩ (.int .i64 ra)).setCell ⟨w.heap.size + 1 + 1, 1, none⟩ (.int .i64 rb) = WF at *
      exact bodyPost_ret (v := toldV (ra, rb, rc)) (by simp [results, Try.results29, go_sem, toldV, r0, r1]) rfl ⟨rfl, HM.out⟩
end Go.Proofs.Ytiigcilmpclclaa

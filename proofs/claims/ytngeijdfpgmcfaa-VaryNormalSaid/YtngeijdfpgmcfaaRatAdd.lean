/- ratio: Add. -/
import Derived.Test.YtngeijdfpgmcfaaRatMul
import Derived.Test.YtngeijdfpgmcfaaRatPlain
namespace Go.Proofs.Ytngeijdfpgmcfaa
open Go.RowKit

set_option maxHeartbeats 1000000 in
theorem add_any (a b c d : Int) (w : World) (ha : -9223372036854775808 ≤ a ∧ a ≤ 9223372036854775807) (hb : -9223372036854775808 ≤ b ∧ b ≤ 9223372036854775807)
    (hc : -9223372036854775808 ≤ c ∧ c ≤ 9223372036854775807) (hd : -9223372036854775808 ≤ d ∧ d ≤ 9223372036854775807) :
    Calls Try.prog 28 #[.agg #[.int .i64 a, .int .i64 b], .agg #[.int .i64 c, .int .i64 d]] w fun e w' =>
      e = .returned (.tuple #[.agg #[.int .i64 (Rat.addR a b c d).1, .int .i64 (Rat.addR a b c d).2.1], .bool (Rat.addR a b c d).2.2]) ∧ Mod [] w w' := by
  have S0 := Lib.hid (own3 w #[.int .i64 a, .int .i64 b] 51 #[.int .i64 c, .int .i64 d] 51 #[.int .i64 0, .int .i64 0] 51)
  have HRa := Lib.hid (fun W => right_any a b W ha hb)
  have HRc := Lib.hid (fun W => right_any c d W hc hd)
  cases hr : Rat.rightB a b with
  | false =>
    have HF := Lib.hid (show Rat.addR a b c d = (0, 0, false) by unfold Rat.addR; rw [hr]; rfl)
    rw [hr] at HRa
    clear hr HRc
    go_enter Try.func28, Try.ntmps28
    go_wp2_with fail
    refine (HRa.out _).mono ?_
    rintro e w1 ⟨rfl, m1⟩
    have S1 := Lib.hid (S0.out.call m1)
    obtain ⟨r0, r1, z0, z1⟩ := (S1.out.at 2 rfl).two
    clear m1
    go_wp2_with fail
    refine bodyPost_ret (v := .tuple #[.agg #[.int .i64 0, .int .i64 0], .bool false]) (by simp [results, Try.results28, go_sem, r0, r1]) rfl ⟨by rw [HF.out], ?_⟩
    exact (S1.out.mod.setNew (by simp <;> omega) _).setNew (by simp <;> omega) _
  | true =>
    obtain ⟨hb0, -⟩ := rightB_pos hr
    rw [hr] at HRa
    cases hq : Rat.rightB c d with
    | false =>
      have HF := Lib.hid (show Rat.addR a b c d = (0, 0, false) by unfold Rat.addR; rw [hq, if_neg (by simp)])
      rw [hq] at HRc
      clear hr hq
      go_enter Try.func28, Try.ntmps28
      go_wp2_with fail
      refine (HRa.out _).mono ?_
      rintro e w1 ⟨rfl, m1⟩
      have S1 := Lib.hid (S0.out.call m1)
      obtain ⟨c0, c1, -, -⟩ := (S1.out.at 1 rfl).two
      clear m1
      go_wp2_with fail
      refine (HRc.out _).mono ?_
      rintro e w2 ⟨rfl, m2⟩
      have S2 := Lib.hid (S1.out.call m2)
      obtain ⟨r0, r1, z0, z1⟩ := (S2.out.at 2 rfl).two
      clear m2 c0 c1
      go_wp2_with fail
      refine bodyPost_ret (v := .tuple #[.agg #[.int .i64 0, .int .i64 0], .bool false]) (by simp [results, Try.results28, go_sem, r0, r1]) rfl ⟨by rw [HF.out], ?_⟩
      exact (S2.out.mod.setNew (by simp <;> omega) _).setNew (by simp <;> omega) _
    | true =>
      obtain ⟨hd0, -⟩ := rightB_pos hq
      rw [hq] at HRc
      have HF := Lib.hid (show Rat.addR a b c d = if (Rat.addS a b c d).natAbs / 18446744073709551616 < Rat.addG a b c d then
        Rat.toldR (decide (Rat.addS a b c d < 0)) ((Rat.addS a b c d).natAbs / Rat.addG a b c d) (b.natAbs / Nat.gcd b.natAbs d.natAbs * (d.natAbs / Rat.addG a b c d)) else (0, 0, false) by
          unfold Rat.addR; simp only [hr, hq, true_and])
      have hbw : IntKind.u64.wrap b = (b.natAbs : Int) := by rw [IntKind.wrap_u64]; omega
      have hdw : IntKind.u64.wrap d = (d.natAbs : Int) := by rw [IntKind.wrap_u64]; omega
      have hy : b.natAbs < 9223372036854775808 := by omega
      have hv : d.natAbs < 9223372036854775808 := by omega
      have HD1 := Lib.hid (fun W => divisor_any b.natAbs d.natAbs W (by omega) (by omega))
      have hg0 : 0 < Nat.gcd b.natAbs d.natAbs := Nat.gcd_pos_of_pos_right _ (by omega)
      have hgv : Nat.gcd b.natAbs d.natAbs ≤ d.natAbs := Nat.gcd_le_right _ (by omega)
      have hS : Rat.addS a b c d = a * ((d.natAbs / Nat.gcd b.natAbs d.natAbs : Nat) : Int) + c * ((b.natAbs / Nat.gcd b.natAbs d.natAbs : Nat) : Int) := rfl
      have hG : Rat.addG a b c d = Nat.gcd ((Rat.addS a b c d).natAbs % Nat.gcd b.natAbs d.natAbs) (Nat.gcd b.natAbs d.natAbs) := rfl
      clear hr hq hb0 hd0
      generalize Rat.addG a b c d = sh at *
      generalize Rat.addS a b c d = s at *
      generalize Nat.gcd b.natAbs d.natAbs = g at *
      generalize b.natAbs = y at *
      generalize d.natAbs = v at *
      obtain ⟨qy, hqy⟩ : ∃ q, q = y / g := ⟨_, rfl⟩
      obtain ⟨qv, hqv⟩ : ∃ q, q = v / g := ⟨_, rfl⟩
      rw [← hqy, ← hqv] at hS
      rw [← hqy] at HF
      have ly : qy < 9223372036854775808 := by rw [hqy]; exact Nat.lt_of_le_of_lt (Nat.div_le_self _ _) hy
      have lv : qv < 9223372036854775808 := by rw [hqv]; exact Nat.lt_of_le_of_lt (Nat.div_le_self _ _) hv
      have ry : IntKind.u64.wrap ((y : Int) / (g : Int)) = (qy : Int) := by rw [← Int.natCast_ediv, ← hqy, Bits.wrapN _ (by omega)]
      have rv : IntKind.u64.wrap ((v : Int) / (g : Int)) = (qv : Int) := by rw [← Int.natCast_ediv, ← hqv, Bits.wrapN _ (by omega)]
      have g2 : ¬ g = 0 := by omega
      have HT1 := Lib.hid (fun W => times_any a qv W ha.1 ha.2 (by omega))
      have HT2 := Lib.hid (fun W => times_any c qy W hc.1 hc.2 (by omega))
      have hxa : a.natAbs * qv ≤ 9223372036854775808 * 9223372036854775808 := Nat.mul_le_mul (by omega) (by omega)
      have hxc : c.natAbs * qy ≤ 9223372036854775808 * 9223372036854775808 := Nat.mul_le_mul (by omega) (by omega)
      obtain ⟨f, hf1, hf2⟩ := Rat.sumW_num (a.natAbs * qv) (c.natAbs * qy) (decide (a < 0)) (decide (c < 0)) s (by rw [Rat.sg_natAbs, Rat.sg_natAbs]; exact hS) (by omega)
      have HSum := Lib.hid (fun W => sum_any (a.natAbs * qv / 18446744073709551616) (a.natAbs * qv % 18446744073709551616) (decide (a < 0)) (c.natAbs * qy / 18446744073709551616) (c.natAbs * qy % 18446744073709551616) (decide (c < 0)) W (Nat.mod_lt _ (by omega)) (Nat.mod_lt _ (by omega)))
      rw [hf1] at HSum
      have HFl := Lib.hid (Rat.toldR_flag hf2 sh)
      clear hf1 hf2 hxa hxc hS hqy hqv
      generalize a.natAbs * qv / 18446744073709551616 = xh at *
      generalize a.natAbs * qv % 18446744073709551616 = xl at *
      generalize c.natAbs * qy / 18446744073709551616 = yh at *
      generalize c.natAbs * qy % 18446744073709551616 = yl at *
      generalize s.natAbs = n at *
      obtain ⟨nh, hnh⟩ : ∃ q, q = n / 18446744073709551616 := ⟨_, rfl⟩
      obtain ⟨nl, hnl⟩ : ∃ q, q = n % 18446744073709551616 := ⟨_, rfl⟩
      rw [← hnh] at HF
      have hnl1 : nl < 18446744073709551616 := by omega
      have hn : nh * 18446744073709551616 + nl = n := by omega
      have HRem := Lib.hid (fun W => rem64_any nh nl g (by omega) (by omega) hnl1 W)
      rw [hn] at HRem
      have HD2 := Lib.hid (fun W => divisor_any (n % g) g W (Nat.lt_of_lt_of_le (Nat.mod_lt _ hg0) (by omega)) (by omega))
      rw [← hG] at HD2
      have hs0 : 0 < sh := by rw [hG]; exact Nat.gcd_pos_of_pos_right _ hg0
      have hsg : sh ≤ g := by rw [hG]; exact Nat.gcd_le_right _ hg0
      have HSum2 : Hid (∀ W : World, Calls Try.prog 45 #[.agg #[.int .u64 xh, .int .u64 xl, .bool (decide (a < 0))], .agg #[.int .u64 yh, .int .u64 yl, .bool (decide (c < 0))]] W fun e w' =>
        e = .returned (.agg #[.int .u64 nh, .int .u64 nl, .bool f]) ∧ Mod [] W w') := by rw [hnh, hnl]; exact HSum.out
      have HDv := Lib.hid (fun (h : nh < sh) W => div64_any nh nl sh h (by omega) hnl1 W)
      rw [hn] at HDv
      have Hwh := Lib.hid (show nh < sh → n / sh < 18446744073709551616 from fun h => by
        rw [Nat.div_lt_iff_lt_mul hs0, ← hn]
        have := Nat.mul_le_mul_left 18446744073709551616 (show nh + 1 ≤ sh from h)
        omega)
      clear HSum hnh hnl hn hG
      generalize n % g = rm at *
      generalize n / sh = wh at *
      generalize n % sh = wr at *
      obtain ⟨qs, hqs⟩ : ∃ q, q = v / sh := ⟨_, rfl⟩
      rw [← hqs] at HF
      have ls : qs < 9223372036854775808 := by rw [hqs]; exact Nat.lt_of_le_of_lt (Nat.div_le_self _ _) hv
      have rs : IntKind.u64.wrap ((v : Int) / (sh : Int)) = (qs : Int) := by rw [← Int.natCast_ediv, ← hqs, Bits.wrapN _ (by omega)]
      have sh2 : ¬ sh = 0 := by omega
      have HP := Lib.hid (fun W => product_any qy qs W (by omega) (by omega))
      obtain ⟨D, hD⟩ : ∃ D, D = qy * qs := ⟨_, rfl⟩
      rw [← hD] at HP HF
      obtain ⟨h', hh'⟩ : ∃ h, h = D / 18446744073709551616 := ⟨_, rfl⟩
      obtain ⟨l', hl'⟩ : ∃ l, l = D % 18446744073709551616 := ⟨_, rfl⟩
      rw [← hh', ← hl'] at HP
      have hl1' : l' < 18446744073709551616 := by omega
      have HDD := Lib.hid (show D = h' * 18446744073709551616 + l' by omega)
      clear hD hh' hl' hqs
      go_enter Try.func28, Try.ntmps28
      go_wp2_with fail
      refine (HRa.out _).mono ?_
      rintro e w1 ⟨rfl, m1⟩
      have S1 := Lib.hid (S0.out.call m1)
      obtain ⟨c0, c1, -, -⟩ := (S1.out.at 1 rfl).two
      clear m1 S0
      go_wp2_with fail
      refine (HRc.out _).mono ?_
      rintro e w2 ⟨rfl, m2⟩
      have S2 := Lib.hid (S1.out.call m2)
      clear m2 c0 c1 S1
      obtain ⟨-, a1, -, -⟩ := (S2.out.at 0 rfl).two
      obtain ⟨-, c1, -, -⟩ := (S2.out.at 1 rfl).two
      go_wp2_with fail
      refine (HD1.out _).mono ?_
      rintro e w3 ⟨rfl, k3, rfl⟩
      have S3 := Lib.hid (S2.out.drewN k3)
      clear a1 c1 S2
      generalize w2.drewN k3 = W3 at *
      obtain ⟨-, a1, -, -⟩ := (S3.out.at 0 rfl).two
      obtain ⟨-, c1, -, -⟩ := (S3.out.at 1 rfl).two
      go_wp2_with fail
      go_quiet (fail)
      have S4 := Lib.hid (S3.out.drewN nq)
      clear a1 c1 S3
      generalize W3.drewN nq = W4 at *
      clear nq
      go_wp2_with fail
      have A0 := (S4.out.at 0 rfl).every
      have C0 := (S4.out.at 1 rfl).every
      refine wp_region_mono 10 [0, 1, 2, 3, 4, 5, 6, 7, 8] [(9, NewBlk W4.heap.size #[.int .u64 0, .int .u64 0, .bool false] 125)] (by kernel_rfl) (by kernel_rfl) (by simp [NewBlk.stays]) ?_
      refine steady_val (v := ?_) rfl (by rfl) ?_ (fun K hK => ?_)
      rotate_left
      · intro w' hw'; go_simp; (try with_reducible rfl)
      go_simp; refine hK _ ?_; clear hK K
      refine steady_val (v := ?_) rfl (by rfl) ?_ (fun K hK => ?_)
      rotate_left
      · intro w' hw'; go_simp; (try with_reducible rfl)
      go_simp; refine hK _ ?_; clear hK K
      refine steady_val (v := ?_) rfl (by rfl) ?_ (fun K hK => ?_)
      rotate_left
      · intro w' hw'; go_simp; (try with_reducible rfl)
      go_simp; refine hK _ ?_; clear hK K
      refine steady_call (calls_mod HT1.out) rfl (by rfl) ?_ (fun K hK => ?_)
      · intro w' hw'; go_simp
      go_simp; refine hK _ ?_; clear hK K
      refine steady_val (v := ?_) rfl (by rfl) ?_ (fun K hK => ?_)
      rotate_left
      · intro w' hw'; go_simp; (try with_reducible rfl)
      go_simp; refine hK _ ?_; clear hK K
      refine steady_val (v := ?_) rfl (by rfl) ?_ (fun K hK => ?_)
      rotate_left
      · intro w' hw'; go_simp; (try with_reducible rfl)
      go_simp; refine hK _ ?_; clear hK K
      refine steady_val (v := ?_) rfl (by rfl) ?_ (fun K hK => ?_)
      rotate_left
      · intro w' hw'; go_simp; (try with_reducible rfl)
      go_simp; refine hK _ ?_; clear hK K
      refine steady_call (calls_mod HT2.out) rfl (by rfl) ?_ (fun K hK => ?_)
      · intro w' hw'; go_simp
      go_simp; refine hK _ ?_; clear hK K
      refine steady_call (calls_mod HSum2.out) rfl (by rfl) ?_ (fun K hK => ?_)
      · intro w' hw'; go_simp
      go_simp; refine hK _ ?_; clear hK K
      refine steady_end ?_
      refine lates_one rfl rfl (late_alloc ?_) (fun v w' hw' => ?_)
      · intro w'; go_simp
      rintro ⟨-, b9, rfl, hb9, B9⟩
      simp only [List.drop_succ_cons, List.drop_zero]
      have S5 := Lib.hid (S4.out.new hw' hb9 B9)
      obtain ⟨s0, s1, s2, z0, z1, z2⟩ := B9.three
      clear A0 C0 hw' hb9 B9 S4
      go_upto_region 6 with fail
      have S6 : Hid (Own w (((w'.setCell ⟨b9, 0, none⟩ (.int .u64 nh)).setCell ⟨b9, 1, none⟩ (.int .u64 nl)).setCell ⟨b9, 2, none⟩ (.bool f))
        [(w.heap.size, #[.int .i64 a, .int .i64 b], 51), (w.heap.size + 1, #[.int .i64 c, .int .i64 d], 51), (w.heap.size + 1 + 1, #[.int .i64 0, .int .i64 0], 51), (b9, #[.int .u64 nh, .int .u64 nl, .bool f], 125)]) :=
        ((S5.out.set 3 rfl 0 _).set 3 rfl 1 _).set 3 rfl 2 _
      clear s0 s1 s2 z0 z1 z2 S5
      generalize ((w'.setCell ⟨b9, 0, none⟩ (.int .u64 nh)).setCell ⟨b9, 1, none⟩ (.int .u64 nl)).setCell ⟨b9, 2, none⟩ (.bool f) = W6 at *
      obtain ⟨s0, s1, -, -, -, -⟩ := (S6.out.at 3 rfl).three
      go_wp2_with fail
      refine (HRem.out _).mono ?_
      rintro e w7 ⟨rfl, k7, rfl⟩
      have S7 := Lib.hid (S6.out.drewN k7)
      clear s0 s1 S6
      generalize W6.drewN k7 = W7 at *
      go_wp2_with fail
      refine (HD2.out _).mono ?_
      rintro e w8 ⟨rfl, k8, rfl⟩
      have S8 := Lib.hid (S7.out.drewN k8)
      clear S7
      generalize W7.drewN k8 = W8 at *
      obtain ⟨s0, s1, -, -, -, -⟩ := (S8.out.at 3 rfl).three
      by_cases hlt : nh < sh
      · have dlt : decide (sh ≤ nh) = false := by simpa using hlt
        have HV := Lib.hid (HDv.out hlt)
        have hwh := Hwh.out hlt
        have HF2 : Hid (Rat.addR a b c d = Rat.toldR f wh D) := by rw [HF.out, if_pos hlt, ← HFl.out D]; exact rfl
        clear hlt HF HDv Hwh HFl
        go_wp2_with fail
        refine (HV.out _).mono ?_
        rintro e w9 ⟨rfl, k9, rfl⟩
        have S9 := Lib.hid (S8.out.drewN k9)
        clear s0 s1 S8
        generalize W8.drewN k9 = W9 at *
        go_wp2_with fail
        have C1 := (S9.out.at 1 rfl).every
        have F1 := (S9.out.at 3 rfl).every
        have HTd := Lib.hid (fun W => told_gen f 0 wh h' l' wh D W hwh hl1' (by omega) HDD.out)
        rw [← HF2.out] at HTd
        generalize eR : Rat.addR a b c d = R at *
        have ER := Lib.hid eR
        clear eR
        refine wp_region_mono 14 [0, 1, 2, 3, 4, 5, 6, 7, 8, 9, 10, 11, 12, 13] [] (by kernel_rfl) (by kernel_rfl) (by simp) ?_
        refine steady_val (v := ?_) rfl (by rfl) ?_ (fun K hK => ?_)
        rotate_left
        · intro w' hw'; go_simp; (try with_reducible rfl)
        go_simp; refine hK _ ?_; clear hK K
        refine steady_val (v := ?_) rfl (by rfl) ?_ (fun K hK => ?_)
        rotate_left
        · intro w' hw'; go_simp; (try with_reducible rfl)
        go_simp; refine hK _ ?_; clear hK K
        refine steady_val (v := ?_) rfl (by rfl) ?_ (fun K hK => ?_)
        rotate_left
        · intro w' hw'; go_simp; (try with_reducible rfl)
        go_simp; refine hK _ ?_; clear hK K
        refine steady_val (v := ?_) rfl (by rfl) ?_ (fun K hK => ?_)
        rotate_left
        · intro w' hw'; go_simp; (try with_reducible rfl)
        go_simp; refine hK _ ?_; clear hK K
        refine steady_val (v := ?_) rfl (by rfl) ?_ (fun K hK => ?_)
        rotate_left
        · intro w' hw'; go_simp; (try with_reducible rfl)
        go_simp; refine hK _ ?_; clear hK K
        refine steady_val (v := ?_) rfl (by rfl) ?_ (fun K hK => ?_)
        rotate_left
        · intro w' hw'; go_simp; (try with_reducible rfl)
        go_simp; refine hK _ ?_; clear hK K
        refine steady_val (v := ?_) rfl (by rfl) ?_ (fun K hK => ?_)
        rotate_left
        · intro w' hw'; go_simp; (try with_reducible rfl)
        go_simp; refine hK _ ?_; clear hK K
        refine steady_val (v := ?_) rfl (by rfl) ?_ (fun K hK => ?_)
        rotate_left
        · intro w' hw'; go_simp; (try with_reducible rfl)
        go_simp; refine hK _ ?_; clear hK K
        refine steady_val (v := ?_) rfl (by rfl) ?_ (fun K hK => ?_)
        rotate_left
        · intro w' hw'; go_simp; (try with_reducible rfl)
        go_simp; refine hK _ ?_; clear hK K
        refine steady_val (v := ?_) rfl (by rfl) ?_ (fun K hK => ?_)
        rotate_left
        · intro w' hw'; go_simp; (try with_reducible rfl)
        go_simp; refine hK _ ?_; clear hK K
        refine steady_call (calls_mod HP.out) rfl (by rfl) ?_ (fun K hK => ?_)
        · intro w' hw'; go_simp
        go_simp; refine hK _ ?_; clear hK K
        refine steady_call (calls_mod HTd.out) rfl (by rfl) ?_ (fun K hK => ?_)
        · intro w' hw'; go_simp
        go_simp; refine hK _ ?_; clear hK K
        refine steady_val (v := ?_) rfl (by rfl) ?_ (fun K hK => ?_)
        rotate_left
        · intro w' hw'; go_simp; (try with_reducible rfl)
        go_simp; refine hK _ ?_; clear hK K
        refine steady_val (v := ?_) rfl (by rfl) ?_ (fun K hK => ?_)
        rotate_left
        · intro w' hw'; go_simp; (try with_reducible rfl)
        go_simp; refine hK _ ?_; clear hK K
        refine steady_end ?_
        refine lates_end (fun w' hw' _ => ?_)
        simp only [List.drop_succ_cons, List.drop_zero]
        have S10 := Lib.hid (S9.out.call hw')
        obtain ⟨r0, r1, z0, z1⟩ := (S10.out.at 2 rfl).two
        have hge := S10.out.ge 2 rfl
        clear C1 F1 hw' S9
        go_wp2_with fail
        refine bodyPost_ret (v := .tuple #[.agg #[.int .i64 R.1, .int .i64 R.2.1], .bool R.2.2]) (by simp [results, Try.results28, go_sem, r0, r1]) rfl ⟨by rw [ER.out], ?_⟩
        exact (S10.out.mod.setNew hge _).setNew hge _
      · have dlt : decide (sh ≤ nh) = true := by simpa using hlt
        have HF2 : Hid (Rat.addR a b c d = (0, 0, false)) := by rw [HF.out, if_neg hlt]; exact rfl
        obtain ⟨r0, r1, z0, z1⟩ := (S8.out.at 2 rfl).two
        have hge := S8.out.ge 2 rfl
        clear hlt HF HDv Hwh HFl
        go_wp2_with fail
        refine bodyPost_ret (v := .tuple #[.agg #[.int .i64 0, .int .i64 0], .bool false]) (by simp [results, Try.results28, go_sem, r0, r1]) rfl ⟨by rw [HF2.out], ?_⟩
        exact (S8.out.mod.setNew hge _).setNew hge _
end Go.Proofs.Ytngeijdfpgmcfaa

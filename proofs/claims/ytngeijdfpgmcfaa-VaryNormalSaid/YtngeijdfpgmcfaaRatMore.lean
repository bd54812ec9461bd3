/- ratio: Sub, Div, Cmp. -/
import Derived.Test.YtngeijdfpgmcfaaRatAdd
import Derived.IntWalk
namespace Go.Proofs.Ytngeijdfpgmcfaa
open Go.RowKit

namespace Rat
def subR (a b c d : Int) : Int × Int × Bool := if rightB c d = true then addR a b (-c) d else (0, 0, false)
def divR (a b c d : Int) : Int × Int × Bool := if rightB c d = true ∧ c ≠ 0 then (if c < 0 then mulR a b (-d) (-c) else mulR a b d c) else (0, 0, false)
end Rat

set_option maxHeartbeats 1000000 in
theorem sub_any (a b c d : Int) (w : World) (ha : -9223372036854775808 ≤ a ∧ a ≤ 9223372036854775807) (hb : -9223372036854775808 ≤ b ∧ b ≤ 9223372036854775807)
    (hc : -9223372036854775808 ≤ c ∧ c ≤ 9223372036854775807) (hd : -9223372036854775808 ≤ d ∧ d ≤ 9223372036854775807) :
    Calls Try.prog 52 #[.agg #[.int .i64 a, .int .i64 b], .agg #[.int .i64 c, .int .i64 d]] w fun e w' =>
      e = .returned (.tuple #[.agg #[.int .i64 (Rat.subR a b c d).1, .int .i64 (Rat.subR a b c d).2.1], .bool (Rat.subR a b c d).2.2]) ∧ Mod [] w w' := by
  have S0 := Lib.hid (own3 w #[.int .i64 a, .int .i64 b] 51 #[.int .i64 c, .int .i64 d] 51 #[.int .i64 0, .int .i64 0] 51)
  have HRc := Lib.hid (fun W => right_any c d W hc hd)
  cases hr : Rat.rightB c d with
  | false =>
    have HF := Lib.hid (show Rat.subR a b c d = (0, 0, false) by unfold Rat.subR; rw [hr]; rfl)
    rw [hr] at HRc
    clear hr
    go_enter Try.func52, Try.ntmps52
    go_wp2_with fail
    refine (HRc.out _).mono ?_
    rintro e w1 ⟨rfl, m1⟩
    have S1 := Lib.hid (S0.out.call m1)
    obtain ⟨r0, r1, z0, z1⟩ := (S1.out.at 2 rfl).two
    have hge := S1.out.ge 2 rfl
    clear m1 S0
    go_wp2_with fail
    refine bodyPost_ret (v := .tuple #[.agg #[.int .i64 0, .int .i64 0], .bool false]) (by simp [results, Try.results52, go_sem, r0, r1]) rfl ⟨by rw [HF.out], ?_⟩
    exact (S1.out.mod.setNew hge _).setNew hge _
  | true =>
    obtain ⟨-, hc0⟩ := rightB_pos hr
    have hc1 : -9223372036854775807 ≤ c := by omega
    have HF := Lib.hid (show Rat.subR a b c d = Rat.addR a b (-c) d by unfold Rat.subR; rw [if_pos hr])
    rw [hr] at HRc
    clear hr hc0
    have HA := Lib.hid (fun W => add_any a b (-c) d W ha hb (by omega) hd)
    rw [← HF.out] at HA
    generalize Rat.subR a b c d = R at *
    clear HF
    go_enter Try.func52, Try.ntmps52
    go_wp2_with fail
    refine (HRc.out _).mono ?_
    rintro e w1 ⟨rfl, m1⟩
    have S1 := Lib.hid (S0.out.call m1)
    obtain ⟨a0, a1, -, -⟩ := (S1.out.at 0 rfl).two
    obtain ⟨c0, c1, -, -⟩ := (S1.out.at 1 rfl).two
    clear m1 S0
    go_wp2_with fail
    refine (HA.out _).mono ?_
    rintro e w2 ⟨rfl, m2⟩
    have S2 := Lib.hid (S1.out.call m2)
    obtain ⟨r0, r1, z0, z1⟩ := (S2.out.at 2 rfl).two
    have hge := S2.out.ge 2 rfl
    clear m2 S1 a0 a1 c0 c1
    go_wp2_with fail
    refine bodyPost_ret (v := .tuple #[.agg #[.int .i64 R.1, .int .i64 R.2.1], .bool R.2.2]) (by simp [results, Try.results52, go_sem, r0, r1]) rfl ⟨rfl, ?_⟩
    exact (S2.out.mod.setNew hge _).setNew hge _

set_option maxHeartbeats 1000000 in
theorem div_any (a b c d : Int) (w : World) (ha : -9223372036854775808 ≤ a ∧ a ≤ 9223372036854775807) (hb : -9223372036854775808 ≤ b ∧ b ≤ 9223372036854775807)
    (hc : -9223372036854775808 ≤ c ∧ c ≤ 9223372036854775807) (hd : -9223372036854775808 ≤ d ∧ d ≤ 9223372036854775807) :
    Calls Try.prog 51 #[.agg #[.int .i64 a, .int .i64 b], .agg #[.int .i64 c, .int .i64 d]] w fun e w' =>
      e = .returned (.tuple #[.agg #[.int .i64 (Rat.divR a b c d).1, .int .i64 (Rat.divR a b c d).2.1], .bool (Rat.divR a b c d).2.2]) ∧ Mod [] w w' := by
  have S0 := Lib.hid (own3 w #[.int .i64 a, .int .i64 b] 51 #[.int .i64 c, .int .i64 d] 51 #[.int .i64 0, .int .i64 0] 51)
  have HRc := Lib.hid (fun W => right_any c d W hc hd)
  cases hr : Rat.rightB c d with
  | false =>
    have HF := Lib.hid (show Rat.divR a b c d = (0, 0, false) by unfold Rat.divR; rw [hr]; simp)
    rw [hr] at HRc
    clear hr
    go_enter Try.func51, Try.ntmps51
    go_wp2_with fail
    refine (HRc.out _).mono ?_
    rintro e w1 ⟨rfl, m1⟩
    have S1 := Lib.hid (S0.out.call m1)
    obtain ⟨r0, r1, z0, z1⟩ := (S1.out.at 2 rfl).two
    have hge := S1.out.ge 2 rfl
    clear m1 S0
    go_wp2_with fail
    refine bodyPost_ret (v := .tuple #[.agg #[.int .i64 0, .int .i64 0], .bool false]) (by simp [results, Try.results51, go_sem, r0, r1]) rfl ⟨by rw [HF.out], ?_⟩
    exact (S1.out.mod.setNew hge _).setNew hge _
  | true =>
    obtain ⟨hd0, hc0⟩ := rightB_pos hr
    have hc1 : -9223372036854775807 ≤ c := by omega
    rw [hr] at HRc
    by_cases hz : c = 0
    · have HF := Lib.hid (show Rat.divR a b c d = (0, 0, false) by unfold Rat.divR; rw [if_neg (by simp [hz])])
      have d0 : (c == 0) = true := by simpa using hz
      clear hr hc0 hz
      go_enter Try.func51, Try.ntmps51
      go_wp2_with fail
      refine (HRc.out _).mono ?_
      rintro e w1 ⟨rfl, m1⟩
      have S1 := Lib.hid (S0.out.call m1)
      obtain ⟨r0, r1, z0, z1⟩ := (S1.out.at 2 rfl).two
      obtain ⟨c0, c1, -, -⟩ := (S1.out.at 1 rfl).two
      have hge := S1.out.ge 2 rfl
      clear m1 S0
      go_wp2_with fail
      refine bodyPost_ret (v := .tuple #[.agg #[.int .i64 0, .int .i64 0], .bool false]) (by simp [results, Try.results51, go_sem, r0, r1]) rfl ⟨by rw [HF.out], ?_⟩
      exact (S1.out.mod.setNew hge _).setNew hge _
    · have d0 : (c == 0) = false := by simpa using hz
      by_cases hn : c < 0
      · have HF := Lib.hid (show Rat.divR a b c d = Rat.mulR a b (-d) (-c) by unfold Rat.divR; rw [if_pos ⟨hr, hz⟩, if_pos hn])
        have d1 : decide (c < 0) = true := by simpa using hn
        have HA := Lib.hid (fun W => mul_any a b (-d) (-c) W ha hb (by omega) (by omega))
        rw [← HF.out] at HA
        generalize Rat.divR a b c d = R at *
        clear HF hr hc0 hz hn
        go_enter Try.func51, Try.ntmps51
        go_wp2_with fail
        refine (HRc.out _).mono ?_
        rintro e w1 ⟨rfl, m1⟩
        have S1 := Lib.hid (S0.out.call m1)
        obtain ⟨c0, c1, -, -⟩ := (S1.out.at 1 rfl).two
        have SN := Lib.hid (S1.out.alloc #[.int .i64 (-d), .int .i64 (-c)] 51)
        obtain ⟨a0, a1, -, -⟩ := (S1.out.at 0 rfl).two
        have hl1 := S1.out.lt 1 rfl
        have hl0 := S1.out.lt 0 rfl
        clear m1 S0
        go_wp2_with fail
        refine (HA.out _).mono ?_
        rintro e w2 ⟨rfl, m2⟩
        have S2 := Lib.hid (SN.out.call m2)
        obtain ⟨r0, r1, z0, z1⟩ := (S2.out.at 2 rfl).two
        have hge := S2.out.ge 2 rfl
        clear m2 S1 a0 a1 c0 c1
        go_wp2_with fail
        refine bodyPost_ret (v := .tuple #[.agg #[.int .i64 R.1, .int .i64 R.2.1], .bool R.2.2]) (by simp [results, Try.results51, go_sem, r0, r1]) rfl ⟨rfl, ?_⟩
        exact (S2.out.mod.setNew hge _).setNew hge _
      · have HF := Lib.hid (show Rat.divR a b c d = Rat.mulR a b d c by unfold Rat.divR; rw [if_pos ⟨hr, hz⟩, if_neg hn])
        have d1 : decide (c < 0) = false := by simpa using hn
        have HA := Lib.hid (fun W => mul_any a b d c W ha hb (by omega) (by omega))
        rw [← HF.out] at HA
        generalize Rat.divR a b c d = R at *
        clear HF hr hc0 hz
        go_enter Try.func51, Try.ntmps51
        go_wp2_with fail
        refine (HRc.out _).mono ?_
        rintro e w1 ⟨rfl, m1⟩
        have S1 := Lib.hid (S0.out.call m1)
        obtain ⟨c0, c1, -, -⟩ := (S1.out.at 1 rfl).two
        have SN := Lib.hid (S1.out.alloc #[.int .i64 d, .int .i64 c] 51)
        obtain ⟨a0, a1, -, -⟩ := (S1.out.at 0 rfl).two
        have hl1 := S1.out.lt 1 rfl
        have hl0 := S1.out.lt 0 rfl
        clear m1 S0
        go_wp2_with fail
        refine (HA.out _).mono ?_
        rintro e w2 ⟨rfl, m2⟩
        have S2 := Lib.hid (SN.out.call m2)
        obtain ⟨r0, r1, z0, z1⟩ := (S2.out.at 2 rfl).two
        have hge := S2.out.ge 2 rfl
        clear m2 S1 a0 a1 c0 c1
        go_wp2_with fail
        refine bodyPost_ret (v := .tuple #[.agg #[.int .i64 R.1, .int .i64 R.2.1], .bool R.2.2]) (by simp [results, Try.results51, go_sem, r0, r1]) rfl ⟨rfl, ?_⟩
        exact (S2.out.mod.setNew hge _).setNew hge _

theorem eqWide (w : World) (a b a' b' : Int) : (Op.equalIn 10000 96 (.agg #[.int .u64 a, .int .u64 b]) (.agg #[.int .u64 a', .int .u64 b'])).run Try.prog w = .ok ((a == a') && (b == b')) w := by
  rw [Op.equalIn]
  simp [run_underlying Try.underlying96, go_sem, Std.Legacy.Range.forIn_eq_forIn_range', Std.Legacy.Range.size, List.range']
  by_cases h1 : a = a' <;> by_cases h2 : b = b' <;> simp [h1, h2]

set_option maxHeartbeats 1000000 in
theorem cmp_any (a b c d : Int) (w : World) (ha : -9223372036854775808 ≤ a ∧ a ≤ 9223372036854775807) (hb : -9223372036854775808 ≤ b ∧ b ≤ 9223372036854775807)
    (hc : -9223372036854775808 ≤ c ∧ c ≤ 9223372036854775807) (hd : -9223372036854775808 ≤ d ∧ d ≤ 9223372036854775807) :
    Calls Try.prog 50 #[.agg #[.int .i64 a, .int .i64 b], .agg #[.int .i64 c, .int .i64 d]] w fun e w' => e = .returned (.int .i64 (Rat.cmpR a b c d)) ∧ Mod [] w w' := by
  have S0 := Lib.hid (own2 w #[.int .i64 a, .int .i64 b] 51 #[.int .i64 c, .int .i64 d] 51)
  have HRa := Lib.hid (fun W => right_any a b W ha hb)
  have HRc := Lib.hid (fun W => right_any c d W hc hd)
  cases hr : Rat.rightB a b with
  | false =>
    have HF := Lib.hid (show Rat.cmpR a b c d = 0 by unfold Rat.cmpR; rw [hr]; rfl)
    rw [hr] at HRa
    clear hr HRc
    go_enter Try.func50, Try.ntmps50
    go_wp2_with fail
    refine (HRa.out _).mono ?_
    rintro e w1 ⟨rfl, m1⟩
    have S1 := Lib.hid (S0.out.call m1)
    clear m1
    go_wp2_with fail
    go_ret
    exact ⟨by rw [HF.out]; rfl, S1.out.mod⟩
  | true =>
    obtain ⟨hb0, -⟩ := rightB_pos hr
    rw [hr] at HRa
    cases hq : Rat.rightB c d with
    | false =>
      have HF := Lib.hid (show Rat.cmpR a b c d = 0 by unfold Rat.cmpR; rw [hq, if_neg (by simp)])
      rw [hq] at HRc
      clear hr hq
      go_enter Try.func50, Try.ntmps50
      go_wp2_with fail
      refine (HRa.out _).mono ?_
      rintro e w1 ⟨rfl, m1⟩
      have S1 := Lib.hid (S0.out.call m1)
      obtain ⟨c0, c1, -, -⟩ := (S1.out.at 1 rfl).two
      clear m1 S0
      go_wp2_with fail
      refine (HRc.out _).mono ?_
      rintro e w2 ⟨rfl, m2⟩
      have S2 := Lib.hid (S1.out.call m2)
      clear m2 c0 c1 S1
      go_wp2_with fail
      go_ret
      exact ⟨by rw [HF.out]; rfl, S2.out.mod⟩
    | true =>
      obtain ⟨hd0, hc0⟩ := rightB_pos hq
      have hc1 : -9223372036854775807 ≤ c := by omega
      have hcw : IntKind.i64.wrap (-c) = -c := IntWalk.i64_in _ (by omega)
      rw [hq] at HRc
      have HF := Lib.hid (show Rat.cmpR a b c d = (a * d - c * b).sign by unfold Rat.cmpR; rw [if_pos ⟨hr, hq⟩])
      have hbw : IntKind.u64.wrap b = (b.natAbs : Int) := by rw [IntKind.wrap_u64]; omega
      have hdw : IntKind.u64.wrap d = (d.natAbs : Int) := by rw [IntKind.wrap_u64]; omega
      have hy : b.natAbs < 9223372036854775808 := by omega
      have hv : d.natAbs < 9223372036854775808 := by omega
      have HT1 := Lib.hid (fun W => times_any a d.natAbs W ha.1 ha.2 (by omega))
      have HT2 := Lib.hid (fun W => times_any (-c) b.natAbs W (by omega) (by omega) (by omega))
      have hxa : a.natAbs * d.natAbs ≤ 9223372036854775808 * 9223372036854775808 := Nat.mul_le_mul (by omega) (by omega)
      have hxc : (-c).natAbs * b.natAbs ≤ 9223372036854775808 * 9223372036854775808 := Nat.mul_le_mul (by omega) (by omega)
      obtain ⟨s, hs⟩ : ∃ s, s = a * d - c * b := ⟨_, rfl⟩
      obtain ⟨f, hf1, hf2⟩ := Rat.sumW_num (a.natAbs * d.natAbs) ((-c).natAbs * b.natAbs) (decide (a < 0)) (decide (-c < 0)) s (by
        rw [Rat.sg_natAbs, Rat.sg_natAbs, hs, Int.natAbs_of_nonneg (by omega), Int.natAbs_of_nonneg (by omega), Int.neg_mul, Int.sub_eq_add_neg]) (by omega)
      have HSum := Lib.hid (fun W => sum_any (a.natAbs * d.natAbs / 18446744073709551616) (a.natAbs * d.natAbs % 18446744073709551616) (decide (a < 0)) ((-c).natAbs * b.natAbs / 18446744073709551616) ((-c).natAbs * b.natAbs % 18446744073709551616) (decide (-c < 0)) W (Nat.mod_lt _ (by omega)) (Nat.mod_lt _ (by omega)))
      rw [hf1] at HSum
      rw [← hs] at HF
      have hn0 : s.natAbs < 340282366920938463463374607431768211456 := by
        have h1 : s.natAbs ≤ (a * d).natAbs + (c * b).natAbs := by rw [hs]; exact Int.natAbs_sub_le _ _
        have h2 : (a * d).natAbs = a.natAbs * d.natAbs := Int.natAbs_mul _ _
        have h3 : (c * b).natAbs = (-c).natAbs * b.natAbs := by rw [Int.natAbs_neg]; exact Int.natAbs_mul _ _
        omega
      have hfs : (if s.natAbs / 18446744073709551616 = 0 ∧ s.natAbs % 18446744073709551616 = 0 then (0 : Int) else if f then -1 else 1) = s.sign := by
        rcases Int.lt_trichotomy s 0 with h | h | h
        · rw [if_neg (by omega), Int.sign_eq_neg_one_of_neg h]
          have : f = true := by cases f <;> simp only [Rat.sg, if_true, if_false, Bool.false_eq_true] at hf2 <;> first | rfl | omega
          rw [this]; rfl
        · rw [if_pos (by omega), h]; rfl
        · rw [if_neg (by omega), Int.sign_eq_one_of_pos h]
          have : f = false := by cases f <;> simp only [Rat.sg, if_true, if_false, Bool.false_eq_true] at hf2 <;> first | rfl | omega
          rw [this]; rfl
      rw [← hfs] at HF
      clear hf1 hf2 hxa hxc hs hr hq hc0 hfs hn0
      generalize a.natAbs * d.natAbs / 18446744073709551616 = xh at *
      generalize a.natAbs * d.natAbs % 18446744073709551616 = xl at *
      generalize (-c).natAbs * b.natAbs / 18446744073709551616 = yh at *
      generalize (-c).natAbs * b.natAbs % 18446744073709551616 = yl at *
      generalize b.natAbs = y at *
      generalize d.natAbs = v at *
      generalize s.natAbs / 18446744073709551616 = nh at *
      generalize s.natAbs % 18446744073709551616 = nl at *
      go_enter Try.func50, Try.ntmps50
      go_wp2_with fail
      refine (HRa.out _).mono ?_
      rintro e w1 ⟨rfl, m1⟩
      have S1 := Lib.hid (S0.out.call m1)
      obtain ⟨c0, c1, -, -⟩ := (S1.out.at 1 rfl).two
      clear m1 S0
      go_wp2_with fail
      refine (HRc.out _).mono ?_
      rintro e w2 ⟨rfl, m2⟩
      have S2 := Lib.hid (S1.out.call m2)
      clear m2 c0 c1 S1
      go_wp2_with fail
      have A0 := (S2.out.at 0 rfl).every
      have C0 := (S2.out.at 1 rfl).every
      refine wp_region_mono 15 [0, 1, 2, 3, 4, 5, 6, 7, 8, 9, 10, 11, 12, 13] [(14, NewBlk w2.heap.size #[.int .u64 0, .int .u64 0, .bool false] 125)] (by kernel_rfl) (by kernel_rfl) (by simp [NewBlk.stays]) ?_
      refine steady_val (v := ?_) rfl (by rfl) ?_ (fun K hK => ?_)
      rotate_left
      · intro w' hw'; go_simp; (try with_reducible rfl)
      go_simp; refine hK _ ?_; clear hK K
      refine steady_val (v := ?_) rfl (by rfl) ?_ (fun K hK => ?_)
      rotate_left
      · intro w' hw'; go_simp; (try with_reducible rfl)
      go_simp; refine hK _ ?_; clear hK K
      refine steady_val (v := ?_) rfl (by rfl) ?_ (fun K hK => ?_)
      rotate_left
      · intro w' hw'; go_simp; (try with_reducible rfl)
      go_simp; refine hK _ ?_; clear hK K
      refine steady_val (v := ?_) rfl (by rfl) ?_ (fun K hK => ?_)
      rotate_left
      · intro w' hw'; go_simp; (try with_reducible rfl)
      go_simp; refine hK _ ?_; clear hK K
      refine steady_val (v := ?_) rfl (by rfl) ?_ (fun K hK => ?_)
      rotate_left
      · intro w' hw'; go_simp; (try with_reducible rfl)
      go_simp; refine hK _ ?_; clear hK K
      refine steady_call (calls_mod HT1.out) rfl (by rfl) ?_ (fun K hK => ?_)
      · intro w' hw'; go_simp
      go_simp; refine hK _ ?_; clear hK K
      refine steady_val (v := ?_) rfl (by rfl) ?_ (fun K hK => ?_)
      rotate_left
      · intro w' hw'; go_simp; (try with_reducible rfl)
      go_simp; refine hK _ ?_; clear hK K
      refine steady_val (v := ?_) rfl (by rfl) ?_ (fun K hK => ?_)
      rotate_left
      · intro w' hw'; go_simp; (try with_reducible rfl)
      go_simp; refine hK _ ?_; clear hK K
      refine steady_val (v := ?_) rfl (by rfl) ?_ (fun K hK => ?_)
      rotate_left
      · intro w' hw'; go_simp; (try with_reducible rfl)
      go_simp; refine hK _ ?_; clear hK K
      refine steady_val (v := ?_) rfl (by rfl) ?_ (fun K hK => ?_)
      rotate_left
      · intro w' hw'; go_simp; (try with_reducible rfl)
      go_simp; refine hK _ ?_; clear hK K
      refine steady_val (v := ?_) rfl (by rfl) ?_ (fun K hK => ?_)
      rotate_left
      · intro w' hw'; go_simp; (try with_reducible rfl)
      go_simp; refine hK _ ?_; clear hK K
      refine steady_val (v := ?_) rfl (by rfl) ?_ (fun K hK => ?_)
      rotate_left
      · intro w' hw'; go_simp; (try with_reducible rfl)
      go_simp; refine hK _ ?_; clear hK K
      refine steady_call (calls_mod HT2.out) rfl (by rfl) ?_ (fun K hK => ?_)
      · intro w' hw'; go_simp
      go_simp; refine hK _ ?_; clear hK K
      refine steady_call (calls_mod HSum.out) rfl (by rfl) ?_ (fun K hK => ?_)
      · intro w' hw'; go_simp
      go_simp; refine hK _ ?_; clear hK K
      refine steady_end ?_
      refine lates_one rfl rfl (late_alloc ?_) (fun v w' hw' => ?_)
      · intro w'; go_simp
      rintro ⟨-, b9, rfl, hb9, B9⟩
      simp only [List.drop_succ_cons, List.drop_zero]
      have S5 := Lib.hid (S2.out.new hw' hb9 B9)
      obtain ⟨s0, s1, s2, z0, z1, z2⟩ := B9.three
      clear A0 C0 hw' hb9 B9 S2
      go_upto_region 4 with fail
      have S6 : Hid (Own w (((w'.setCell ⟨b9, 0, none⟩ (.int .u64 nh)).setCell ⟨b9, 1, none⟩ (.int .u64 nl)).setCell ⟨b9, 2, none⟩ (.bool f))
        [(w.heap.size, #[.int .i64 a, .int .i64 b], 51), (w.heap.size + 1, #[.int .i64 c, .int .i64 d], 51), (b9, #[.int .u64 nh, .int .u64 nl, .bool f], 125)]) :=
        ((S5.out.set 2 rfl 0 _).set 2 rfl 1 _).set 2 rfl 2 _
      clear s0 s1 s2 z0 z1 z2 S5
      generalize ((w'.setCell ⟨b9, 0, none⟩ (.int .u64 nh)).setCell ⟨b9, 1, none⟩ (.int .u64 nl)).setCell ⟨b9, 2, none⟩ (.bool f) = W6 at *
      obtain ⟨s0, s1, s2, -, -, -⟩ := (S6.out.at 2 rfl).three
      by_cases hz : nh = 0 ∧ nl = 0
      · have HF2 : Hid (Rat.cmpR a b c d = 0) := by rw [HF.out, if_pos hz]; exact rfl
        have d1 : ((nh : Int) == 0) = true := by simp; omega
        have d2 : ((nl : Int) == 0) = true := by simp; omega
        have HE : ∀ w, (Op.equalIn 10000 96 (.agg #[.int .u64 nh, .int .u64 nl]) (.agg #[.int .u64 0, .int .u64 0])).run Try.prog w = .ok true w := fun w => by rw [eqWide, d1, d2]; rfl
        clear hz HF
        go_wp2_with fail
        go_ret
        exact ⟨by rw [HF2.out]; rfl, S6.out.mod⟩
      · have HF2 : Hid (Rat.cmpR a b c d = if f then -1 else 1) := by rw [HF.out, if_neg hz]; exact rfl
        have d3 : (((nh : Int) == 0) && ((nl : Int) == 0)) = false := by simp; omega
        have HE : ∀ w, (Op.equalIn 10000 96 (.agg #[.int .u64 nh, .int .u64 nl]) (.agg #[.int .u64 0, .int .u64 0])).run Try.prog w = .ok false w := fun w => by rw [eqWide, d3]
        clear hz HF
        cases f with
        | true =>
          go_wp2_with fail
          go_ret
          exact ⟨by rw [HF2.out]; rfl, S6.out.mod⟩
        | false =>
          go_wp2_with fail
          go_ret
          exact ⟨by rw [HF2.out]; rfl, S6.out.mod⟩
end Go.Proofs.Ytngeijdfpgmcfaa

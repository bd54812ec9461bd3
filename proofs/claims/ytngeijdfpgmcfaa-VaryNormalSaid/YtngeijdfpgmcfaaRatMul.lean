/- ratio: Mul. -/
import Derived.Test.YtngeijdfpgmcfaaRatScale
import Derived.Test.YtngeijdfpgmcfaaMono
import Derived.Deep.DeepCutAuto
namespace Go.Proofs.Ytngeijdfpgmcfaa
open Go.RowKit

namespace Rat
/-- What Mul tells. -/
def mulR (a b c d : Int) : Int × Int × Bool :=
  if rightB a b = true ∧ rightB c d = true then toldR (!(decide (a < 0) == decide (c < 0))) (a.natAbs / Nat.gcd a.natAbs d.natAbs * (c.natAbs / Nat.gcd c.natAbs b.natAbs)) (b.natAbs / Nat.gcd c.natAbs b.natAbs * (d.natAbs / Nat.gcd a.natAbs d.natAbs)) else (0, 0, false)
end Rat

theorem boxes3 (w : World) (x y u v r s : Value) (t t' t'' : TypeId) :
    Blk (((w.alloc (.cells #[x, y] t)).alloc (.cells #[u, v] t')).alloc (.cells #[r, s] t'')) w.heap.size #[x, y] t ∧
    Blk (((w.alloc (.cells #[x, y] t)).alloc (.cells #[u, v] t')).alloc (.cells #[r, s] t'')) (w.heap.size + 1) #[u, v] t' ∧
    Blk (((w.alloc (.cells #[x, y] t)).alloc (.cells #[u, v] t')).alloc (.cells #[r, s] t'')) (w.heap.size + 2) #[r, s] t'' := by
  refine ⟨((Blk.new w _ t).alloc _).alloc _, ?_, ?_⟩
  · have h := (Blk.new (w.alloc (.cells #[x, y] t)) #[u, v] t').alloc (.cells #[r, s] t'')
    simpa using h
  · have h := Blk.new ((w.alloc (.cells #[x, y] t)).alloc (.cells #[u, v] t')) #[r, s] t''
    simpa using h

set_option maxHeartbeats 1000000 in
theorem mul_any (a b c d : Int) (w : World) (ha : -9223372036854775808 ≤ a ∧ a ≤ 9223372036854775807) (hb : -9223372036854775808 ≤ b ∧ b ≤ 9223372036854775807)
    (hc : -9223372036854775808 ≤ c ∧ c ≤ 9223372036854775807) (hd : -9223372036854775808 ≤ d ∧ d ≤ 9223372036854775807) :
    Calls Try.prog 29 #[.agg #[.int .i64 a, .int .i64 b], .agg #[.int .i64 c, .int .i64 d]] w fun e w' =>
      e = .returned (.tuple #[.agg #[.int .i64 (Rat.mulR a b c d).1, .int .i64 (Rat.mulR a b c d).2.1], .bool (Rat.mulR a b c d).2.2]) ∧ Mod [] w w' := by
  have M0 := Lib.hid ((((Mod.refl [] w).alloc (.cells #[.int .i64 a, .int .i64 b] 51)).alloc (.cells #[.int .i64 c, .int .i64 d] 51)).alloc (.cells #[.int .i64 0, .int .i64 0] 51))
  have B0 := Lib.hid (boxes3 w (.int .i64 a) (.int .i64 b) (.int .i64 c) (.int .i64 d) (.int .i64 0) (.int .i64 0) 51 51 51)
  have HRa := Lib.hid (fun W => right_any a b W ha hb)
  have HRc := Lib.hid (fun W => right_any c d W hc hd)
  cases hr : Rat.rightB a b with
  | false =>
    have HF := Lib.hid (show Rat.mulR a b c d = (0, 0, false) by unfold Rat.mulR; rw [hr]; rfl)
    rw [hr] at HRa
    clear hr HRc
    go_enter Try.func29, Try.ntmps29
    go_wp2_with fail
    refine (HRa.out _).mono ?_
    rintro e w1 ⟨rfl, m1⟩
    have M1 := Lib.hid (M0.out.then m1)
    obtain ⟨r0, r1, z0, z1⟩ := (B0.out.2.2.kept m1 (by simp)).two
    clear m1
    go_wp2_with fail
    refine bodyPost_ret (v := .tuple #[.agg #[.int .i64 0, .int .i64 0], .bool false]) (by simp [results, Try.results29, go_sem, r0, r1]) rfl ⟨by rw [HF.out], ?_⟩
    exact (M1.out.setNew (by simp <;> omega) _).setNew (by simp <;> omega) _
  | true =>
    obtain ⟨hb0, ha0⟩ := rightB_pos hr
    rw [hr] at HRa
    cases hq : Rat.rightB c d with
    | false =>
      have HF := Lib.hid (show Rat.mulR a b c d = (0, 0, false) by unfold Rat.mulR; rw [hq, if_neg (by simp)])
      rw [hq] at HRc
      clear hr hq
      go_enter Try.func29, Try.ntmps29
      go_wp2_with fail
      refine (HRa.out _).mono ?_
      rintro e w1 ⟨rfl, m1⟩
      have M1 := Lib.hid (M0.out.then m1)
      have BC := Lib.hid (B0.out.2.1.kept m1 (by simp))
      have BR := Lib.hid (B0.out.2.2.kept m1 (by simp))
      obtain ⟨c0, c1, -, -⟩ := BC.out.two
      clear m1
      go_wp2_with fail
      refine (HRc.out _).mono ?_
      rintro e w2 ⟨rfl, m2⟩
      have M2 := Lib.hid (M1.out.then m2)
      obtain ⟨r0, r1, z0, z1⟩ := (BR.out.kept m2 (by simp)).two
      clear m2 c0 c1
      go_wp2_with fail
      refine bodyPost_ret (v := .tuple #[.agg #[.int .i64 0, .int .i64 0], .bool false]) (by simp [results, Try.results29, go_sem, r0, r1]) rfl ⟨by rw [HF.out], ?_⟩
      exact (M2.out.setNew (by simp <;> omega) _).setNew (by simp <;> omega) _
    | true =>
      obtain ⟨hd0, hc0⟩ := rightB_pos hq
      rw [hq] at HRc
      have HF := Lib.hid (show Rat.mulR a b c d = Rat.toldR (!(decide (a < 0) == decide (c < 0))) (a.natAbs / Nat.gcd a.natAbs d.natAbs * (c.natAbs / Nat.gcd c.natAbs b.natAbs)) (b.natAbs / Nat.gcd c.natAbs b.natAbs * (d.natAbs / Nat.gcd a.natAbs d.natAbs)) by unfold Rat.mulR; rw [if_pos ⟨hr, hq⟩])
      have HSa := Lib.hid (fun W => size_any a W ha.1 ha.2)
      have HSc := Lib.hid (fun W => size_any c W hc.1 hc.2)
      have HSa2 := Lib.hid (fun W => (size_any a W ha.1 ha.2).mono fun _ _ h => And.imp_right Eq.symm h)
      have HSc2 := Lib.hid (fun W => (size_any c W hc.1 hc.2).mono fun _ _ h => And.imp_right Eq.symm h)
      have hbw : IntKind.u64.wrap b = (b.natAbs : Int) := by rw [IntKind.wrap_u64]; omega
      have hdw : IntKind.u64.wrap d = (d.natAbs : Int) := by rw [IntKind.wrap_u64]; omega
      have HD1 := Lib.hid (fun W => divisor_any a.natAbs d.natAbs W (by omega) (by omega))
      have HD2 := Lib.hid (fun W => divisor_any c.natAbs b.natAbs W (by omega) (by omega))
      have hf0 : 0 < Nat.gcd a.natAbs d.natAbs := Nat.gcd_pos_of_pos_right _ (by omega)
      have hs0 : 0 < Nat.gcd c.natAbs b.natAbs := Nat.gcd_pos_of_pos_right _ (by omega)
      have hx : a.natAbs < 18446744073709551616 := by omega
      have hy : b.natAbs < 18446744073709551616 := by omega
      have hu : c.natAbs < 18446744073709551616 := by omega
      have hv : d.natAbs < 18446744073709551616 := by omega
      clear hr hq ha0 hb0 hc0 hd0
      generalize Nat.gcd a.natAbs d.natAbs = f at *
      generalize Nat.gcd c.natAbs b.natAbs = s at *
      generalize a.natAbs = x at *
      generalize b.natAbs = y at *
      generalize c.natAbs = u at *
      generalize d.natAbs = v at *
      obtain ⟨qx, hqx⟩ : ∃ q, q = x / f := ⟨_, rfl⟩
      obtain ⟨qy, hqy⟩ : ∃ q, q = y / s := ⟨_, rfl⟩
      obtain ⟨qu, hqu⟩ : ∃ q, q = u / s := ⟨_, rfl⟩
      obtain ⟨qv, hqv⟩ : ∃ q, q = v / f := ⟨_, rfl⟩
      rw [← hqx, ← hqy, ← hqu, ← hqv] at HF
      have lx : qx < 18446744073709551616 := by rw [hqx]; exact Nat.lt_of_le_of_lt (Nat.div_le_self _ _) hx
      have ly : qy < 18446744073709551616 := by rw [hqy]; exact Nat.lt_of_le_of_lt (Nat.div_le_self _ _) hy
      have lu : qu < 18446744073709551616 := by rw [hqu]; exact Nat.lt_of_le_of_lt (Nat.div_le_self _ _) hu
      have lv : qv < 18446744073709551616 := by rw [hqv]; exact Nat.lt_of_le_of_lt (Nat.div_le_self _ _) hv
      have tx : IntKind.u64.wrap ((x : Int).tdiv (f : Int)) = (qx : Int) := by rw [Int.tdiv_eq_ediv_of_nonneg (by omega), ← Int.natCast_ediv, ← hqx, Bits.wrapN _ lx]
      have ty : IntKind.u64.wrap ((y : Int).tdiv (s : Int)) = (qy : Int) := by rw [Int.tdiv_eq_ediv_of_nonneg (by omega), ← Int.natCast_ediv, ← hqy, Bits.wrapN _ ly]
      have tu : IntKind.u64.wrap ((u : Int).tdiv (s : Int)) = (qu : Int) := by rw [Int.tdiv_eq_ediv_of_nonneg (by omega), ← Int.natCast_ediv, ← hqu, Bits.wrapN _ lu]
      have tv : IntKind.u64.wrap ((v : Int).tdiv (f : Int)) = (qv : Int) := by rw [Int.tdiv_eq_ediv_of_nonneg (by omega), ← Int.natCast_ediv, ← hqv, Bits.wrapN _ lv]
      have rx : IntKind.u64.wrap ((x : Int) / (f : Int)) = (qx : Int) := by rw [← Int.natCast_ediv, ← hqx, Bits.wrapN _ lx]
      have ry : IntKind.u64.wrap ((y : Int) / (s : Int)) = (qy : Int) := by rw [← Int.natCast_ediv, ← hqy, Bits.wrapN _ ly]
      have ru : IntKind.u64.wrap ((u : Int) / (s : Int)) = (qu : Int) := by rw [← Int.natCast_ediv, ← hqu, Bits.wrapN _ lu]
      have rv : IntKind.u64.wrap ((v : Int) / (f : Int)) = (qv : Int) := by rw [← Int.natCast_ediv, ← hqv, Bits.wrapN _ lv]
      have f2 : ¬ f = 0 := by omega
      have s2 : ¬ s = 0 := by omega
      have HP1 := Lib.hid (fun W => product_any qx qu W lx lu)
      have HP2 := Lib.hid (fun W => product_any qy qv W ly lv)
      obtain ⟨A, hA⟩ : ∃ A, A = qx * qu := ⟨_, rfl⟩
      obtain ⟨D, hD⟩ : ∃ D, D = qy * qv := ⟨_, rfl⟩
      rw [← hA] at HP1 HF
      rw [← hD] at HP2 HF
      obtain ⟨h, hh⟩ : ∃ h, h = A / 18446744073709551616 := ⟨_, rfl⟩
      obtain ⟨l, hl⟩ : ∃ l, l = A % 18446744073709551616 := ⟨_, rfl⟩
      obtain ⟨h', hh'⟩ : ∃ h, h = D / 18446744073709551616 := ⟨_, rfl⟩
      obtain ⟨l', hl'⟩ : ∃ l, l = D % 18446744073709551616 := ⟨_, rfl⟩
      rw [← hh, ← hl] at HP1
      rw [← hh', ← hl'] at HP2
      have hl1 : l < 18446744073709551616 := by omega
      have hl1' : l' < 18446744073709551616 := by omega
      have HA := Lib.hid (show A = h * 18446744073709551616 + l by omega)
      have HD := Lib.hid (show D = h' * 18446744073709551616 + l' by omega)
      clear hA hD hh hl hh' hl' hqx hqy hqu hqv
      go_enter Try.func29, Try.ntmps29
      go_wp2_with fail
      refine (HRa.out _).mono ?_
      rintro e w1 ⟨rfl, m1⟩
      have M1 := Lib.hid (M0.out.then m1)
      have BA := Lib.hid (B0.out.1.kept m1 (by simp))
      have BC := Lib.hid (B0.out.2.1.kept m1 (by simp))
      have BR := Lib.hid (B0.out.2.2.kept m1 (by simp))
      obtain ⟨c0, c1, -, -⟩ := BC.out.two
      clear m1 M0 B0
      go_wp2_with fail
      refine (HRc.out _).mono ?_
      rintro e w2 ⟨rfl, m2⟩
      have M2 := Lib.hid (M1.out.then m2)
      have BA2 := Lib.hid (BA.out.kept m2 (by simp))
      have BC2 := Lib.hid (BC.out.kept m2 (by simp))
      have BR2 := Lib.hid (BR.out.kept m2 (by simp))
      clear m2 c0 c1 BA BC BR M1
      obtain ⟨a0, a1, -, -⟩ := BA2.out.two
      obtain ⟨c0, c1, -, -⟩ := BC2.out.two
      go_wp2_with fail
      go_quiet ((first | (go_at_call 32; exact quiet_left (HSa.out _)) | (go_at_call 31; exact Calls.quiet_of (HD1.out _))))
      have BA3 := Lib.hid (BA2.out.drewN nq)
      have BC3 := Lib.hid (BC2.out.drewN nq)
      have BR3 := Lib.hid (BR2.out.drewN nq)
      have M3 := Lib.hid (M2.out.drewN nq)
      clear a0 a1 c0 c1 BA2 BC2 BR2 M2
      generalize w2.drewN nq = W2 at *
      clear nq
      obtain ⟨a0, a1, -, -⟩ := BA3.out.two
      obtain ⟨c0, c1, -, -⟩ := BC3.out.two
      go_wp2_with fail
      go_quiet ((first | (go_at_call 32; exact quiet_left (HSc.out _)) | (go_at_call 31; exact Calls.quiet_of (HD2.out _))))
      have BA4 := Lib.hid (BA3.out.drewN nq)
      have BC4 := Lib.hid (BC3.out.drewN nq)
      have BR4 := Lib.hid (BR3.out.drewN nq)
      have M4 := Lib.hid (M3.out.drewN nq)
      clear a0 a1 c0 c1 BA3 BC3 BR3 M3
      generalize W2.drewN nq = W at *
      clear nq
      go_wp2_with fail
      have A0 : ∀ w', Mod [] W w' → w'.cell? ⟨w.heap.size, 0, none⟩ = some (.int .i64 a) := BA4.out.ever 0
      have C0 : ∀ w', Mod [] W w' → w'.cell? ⟨w.heap.size + 1, 0, none⟩ = some (.int .i64 c) := BC4.out.ever 0
      refine wp_region_mono 12 [0, 1, 2, 3, 4, 5, 6, 7, 8, 9, 10] [(11, NewBlk W.heap.size #[.int .u64 0, .int .u64 0] 96)] (by kernel_rfl) (by kernel_rfl) (by simp [NewBlk.stays]) ?_
      refine steady_val (v := ?_) rfl (by rfl) ?_ (fun K hK => ?_)
      rotate_left
      · intro w' hw'; go_simp; (try with_reducible rfl)
      go_simp; refine hK _ ?_; clear hK K
      refine steady_val (v := ?_) rfl (by rfl) ?_ (fun K hK => ?_)
      rotate_left
      · intro w' hw'; go_simp; (try with_reducible rfl)
      go_simp; refine hK _ ?_; clear hK K
      refine steady_call (calls_same HSa.out) rfl (by rfl) ?_ (fun K hK => ?_)
      · intro w' hw'; go_simp
      go_simp; refine hK _ ?_; clear hK K
      refine steady_val (v := ?_) rfl (by rfl) ?_ (fun K hK => ?_)
      rotate_left
      · intro w' hw'; go_simp; (try with_reducible rfl)
      go_simp; refine hK _ ?_; clear hK K
      refine steady_val (v := ?_) rfl (by rfl) ?_ (fun K hK => ?_)
      rotate_left
      · intro w' hw'; go_simp; (try with_reducible rfl)
      go_simp; refine hK _ ?_; clear hK K
      refine steady_val (v := ?_) rfl (by rfl) ?_ (fun K hK => ?_)
      rotate_left
      · intro w' hw'; go_simp; (try with_reducible rfl)
      go_simp; refine hK _ ?_; clear hK K
      refine steady_val (v := ?_) rfl (by rfl) ?_ (fun K hK => ?_)
      rotate_left
      · intro w' hw'; go_simp; (try with_reducible rfl)
      go_simp; refine hK _ ?_; clear hK K
      refine steady_call (calls_same HSc.out) rfl (by rfl) ?_ (fun K hK => ?_)
      · intro w' hw'; go_simp
      go_simp; refine hK _ ?_; clear hK K
      refine steady_val (v := ?_) rfl (by rfl) ?_ (fun K hK => ?_)
      rotate_left
      · intro w' hw'; go_simp; (try with_reducible rfl)
      go_simp; refine hK _ ?_; clear hK K
      refine steady_val (v := ?_) rfl (by rfl) ?_ (fun K hK => ?_)
      rotate_left
      · intro w' hw'; go_simp; (try with_reducible rfl)
      go_simp; refine hK _ ?_; clear hK K
      refine steady_call (calls_mod HP1.out) rfl (by rfl) ?_ (fun K hK => ?_)
      · intro w' hw'; go_simp
      go_simp; refine hK _ ?_; clear hK K
      refine steady_end ?_
      refine lates_one rfl rfl (late_alloc ?_) (fun v w' hw' => ?_)
      · intro w'; go_simp
      rintro ⟨-, b8, rfl, hb8, B8⟩
      simp only [List.drop_succ_cons, List.drop_zero]
      have hlt := BR4.out.lt
      have N0 := Lib.hid (show w.heap.size ≤ b8 ∧ b8 ≠ w.heap.size ∧ b8 ≠ w.heap.size + 1 ∧ b8 ≠ w.heap.size + 2 by have := M4.out.size; omega)
      obtain ⟨s0, s1, z0, z1⟩ := B8.two
      clear A0 C0
      go_wp2_with fail
      have BA5 := Lib.hid (((BA4.out.kept hw' (by simp)).other (a := ⟨b8, 0, none⟩) N0.out.2.1 (.int .u64 h)).other (a := ⟨b8, 1, none⟩) N0.out.2.1 (.int .u64 l))
      have BC5 := Lib.hid (((BC4.out.kept hw' (by simp)).other (a := ⟨b8, 0, none⟩) N0.out.2.2.1 (.int .u64 h)).other (a := ⟨b8, 1, none⟩) N0.out.2.2.1 (.int .u64 l))
      have BR5 := Lib.hid (((BR4.out.kept hw' (by simp)).other (a := ⟨b8, 0, none⟩) N0.out.2.2.2 (.int .u64 h)).other (a := ⟨b8, 1, none⟩) N0.out.2.2.2 (.int .u64 l))
      have B5 : Hid (Blk ((w'.setCell ⟨b8, 0, none⟩ (.int .u64 h)).setCell ⟨b8, 1, none⟩ (.int .u64 l)) b8 #[.int .u64 h, .int .u64 l] 96) := (B8.set 0 _).set 1 _
      have M5 := Lib.hid (((M4.out.then hw').setNew (p := ⟨b8, 0, none⟩) N0.out.1 (.int .u64 h)).setNew (p := ⟨b8, 1, none⟩) N0.out.1 (.int .u64 l))
      clear s0 s1 z0 z1 B8 hw' BA4 BC4 BR4 M4
      generalize (w'.setCell ⟨b8, 0, none⟩ (.int .u64 h)).setCell ⟨b8, 1, none⟩ (.int .u64 l) = W5 at *
      have A1 : ∀ w', Mod [] W5 w' → w'.cell? ⟨w.heap.size, 1, none⟩ = some (.int .i64 b) := BA5.out.ever 1
      have C1 : ∀ w', Mod [] W5 w' → w'.cell? ⟨w.heap.size + 1, 1, none⟩ = some (.int .i64 d) := BC5.out.ever 1
      refine wp_region_mono 12 [0, 1, 2, 3, 4, 5, 6, 7, 8, 9, 10] [(11, NewBlk W5.heap.size #[.int .u64 0, .int .u64 0] 96)] (by kernel_rfl) (by kernel_rfl) (by simp [NewBlk.stays]) ?_
      refine steady_val (v := ?_) rfl (by rfl) ?_ (fun K hK => ?_)
      rotate_left
      · intro w' hw'; go_simp; (try with_reducible rfl)
      go_simp; refine hK _ ?_; clear hK K
      refine steady_val (v := ?_) rfl (by rfl) ?_ (fun K hK => ?_)
      rotate_left
      · intro w' hw'; go_simp; (try with_reducible rfl)
      go_simp; refine hK _ ?_; clear hK K
      refine steady_val (v := ?_) rfl (by rfl) ?_ (fun K hK => ?_)
      rotate_left
      · intro w' hw'; go_simp; (try with_reducible rfl)
      go_simp; refine hK _ ?_; clear hK K
      refine steady_val (v := ?_) rfl (by rfl) ?_ (fun K hK => ?_)
      rotate_left
      · intro w' hw'; go_simp; (try with_reducible rfl)
      go_simp; refine hK _ ?_; clear hK K
      refine steady_val (v := ?_) rfl (by rfl) ?_ (fun K hK => ?_)
      rotate_left
      · intro w' hw'; go_simp; (try with_reducible rfl)
      go_simp; refine hK _ ?_; clear hK K
      refine steady_val (v := ?_) rfl (by rfl) ?_ (fun K hK => ?_)
      rotate_left
      · intro w' hw'; go_simp; (try with_reducible rfl)
      go_simp; refine hK _ ?_; clear hK K
      refine steady_val (v := ?_) rfl (by rfl) ?_ (fun K hK => ?_)
      rotate_left
      · intro w' hw'; go_simp; (try with_reducible rfl)
      go_simp; refine hK _ ?_; clear hK K
      refine steady_val (v := ?_) rfl (by rfl) ?_ (fun K hK => ?_)
      rotate_left
      · intro w' hw'; go_simp; (try with_reducible rfl)
      go_simp; refine hK _ ?_; clear hK K
      refine steady_val (v := ?_) rfl (by rfl) ?_ (fun K hK => ?_)
      rotate_left
      · intro w' hw'; go_simp; (try with_reducible rfl)
      go_simp; refine hK _ ?_; clear hK K
      refine steady_val (v := ?_) rfl (by rfl) ?_ (fun K hK => ?_)
      rotate_left
      · intro w' hw'; go_simp; (try with_reducible rfl)
      go_simp; refine hK _ ?_; clear hK K
      refine steady_call (calls_mod HP2.out) rfl (by rfl) ?_ (fun K hK => ?_)
      · intro w' hw'; go_simp
      go_simp; refine hK _ ?_; clear hK K
      refine steady_end ?_
      refine lates_one rfl rfl (late_alloc ?_) (fun v w' hw' => ?_)
      · intro w'; go_simp
      rintro ⟨-, b9, rfl, hb9, B9⟩
      simp only [List.drop_succ_cons, List.drop_zero]
      have hlt9 := B5.out.lt
      have hlt5 := BR5.out.lt
      have N1 := Lib.hid (show w.heap.size ≤ b9 ∧ b9 ≠ w.heap.size ∧ b9 ≠ w.heap.size + 1 ∧ b9 ≠ w.heap.size + 2 ∧ b9 ≠ b8 by have := M5.out.size; omega)
      obtain ⟨s0, s1, z0, z1⟩ := B9.two
      clear A1 C1
      go_upto_region 7 with fail
      have BA6 := Lib.hid (((BA5.out.kept hw' (by simp)).other (a := ⟨b9, 0, none⟩) N1.out.2.1 (.int .u64 h')).other (a := ⟨b9, 1, none⟩) N1.out.2.1 (.int .u64 l'))
      have BC6 := Lib.hid (((BC5.out.kept hw' (by simp)).other (a := ⟨b9, 0, none⟩) N1.out.2.2.1 (.int .u64 h')).other (a := ⟨b9, 1, none⟩) N1.out.2.2.1 (.int .u64 l'))
      have BR6 := Lib.hid (((BR5.out.kept hw' (by simp)).other (a := ⟨b9, 0, none⟩) N1.out.2.2.2.1 (.int .u64 h')).other (a := ⟨b9, 1, none⟩) N1.out.2.2.2.1 (.int .u64 l'))
      have B6 := Lib.hid (((B5.out.kept hw' (by simp)).other (a := ⟨b9, 0, none⟩) N1.out.2.2.2.2 (.int .u64 h')).other (a := ⟨b9, 1, none⟩) N1.out.2.2.2.2 (.int .u64 l'))
      have B7 : Hid (Blk ((w'.setCell ⟨b9, 0, none⟩ (.int .u64 h')).setCell ⟨b9, 1, none⟩ (.int .u64 l')) b9 #[.int .u64 h', .int .u64 l'] 96) := (B9.set 0 _).set 1 _
      have M6 := Lib.hid (((M5.out.then hw').setNew (p := ⟨b9, 0, none⟩) N1.out.1 (.int .u64 h')).setNew (p := ⟨b9, 1, none⟩) N1.out.1 (.int .u64 l'))
      clear s0 s1 z0 z1 B9 hw' BA5 BC5 BR5 M5 B5
      generalize (w'.setCell ⟨b9, 0, none⟩ (.int .u64 h')).setCell ⟨b9, 1, none⟩ (.int .u64 l') = W6 at *
      obtain ⟨a0, -, -, -⟩ := BA6.out.two
      obtain ⟨c0, -, -, -⟩ := BC6.out.two
      obtain ⟨p0, p1, -, -⟩ := B6.out.two
      obtain ⟨q0, q1, -, -⟩ := B7.out.two
      go_wp2_with fail
      refine (told_gen _ h l h' l' A D _ hl1 hl1' HA.out HD.out).mono ?_
      rintro e w7 ⟨rfl, m7⟩
      have M7 := Lib.hid (M6.out.then m7)
      obtain ⟨r0, r1, z0, z1⟩ := (BR6.out.kept m7 (by simp)).two
      rw [← HF.out]
      clear m7 a0 c0 p0 p1 q0 q1
      generalize eR : Rat.mulR a b c d = R at *
      have ER := Lib.hid eR
      clear eR
      go_wp2_with fail
      refine bodyPost_ret (v := .tuple #[.agg #[.int .i64 R.1, .int .i64 R.2.1], .bool R.2.2]) (by simp [results, Try.results29, go_sem, r0, r1]) rfl ⟨by rw [ER.out], ?_⟩
      exact (M7.out.setNew (by simp <;> omega) _).setNew (by simp <;> omega) _
end Go.Proofs.Ytngeijdfpgmcfaa

/- RatioFloors: the walk. (Printed by gen_floors.py.) -/
import Derived.Test.YtiigcilmpclclaaRatSm
namespace Go.Proofs.Ytiigcilmpclclaa
open Go.RowKit
set_option linter.unusedVariables false

namespace Rat
theorem floor_spec {N D : Int} (hD : 0 < D) : D * (N / D) ≤ N ∧ N < D * (N / D) + D :=
  ⟨Int.mul_ediv_self_le (by omega), Int.lt_mul_ediv_self_add hD⟩
theorem floor_bd {N D : Int} (h : Rt N D) : -9223372036854775807 ≤ N / D ∧ N / D ≤ 9223372036854775807 := by
  have hD := h.pos
  have h1 := h.lo
  have h2 := h.bN.2
  constructor
  · rw [Int.le_ediv_iff_mul_le hD]
    have : (9223372036854775807 : Int) * 1 ≤ 9223372036854775807 * D := Int.mul_le_mul_of_nonneg_left (by omega) (by omega)
    omega
  · have h3 : N / D < 9223372036854775807 + 1 := by
      rw [Int.ediv_lt_iff_lt_mul hD]
      have : (9223372036854775808 : Int) * 1 ≤ 9223372036854775808 * D := Int.mul_le_mul_of_nonneg_left (by omega) (by omega)
      omega
    omega
theorem rt_whole {n : Int} (h1 : -9223372036854775807 ≤ n) (h2 : n ≤ 9223372036854775807) : Rt n 1 :=
  ⟨(rightB_iff _ _).2 ⟨by omega, by omega, Nat.coprime_one_right _⟩, by omega, by omega, h2, by omega⟩
theorem make_whole {n : Int} (h1 : -9223372036854775807 ≤ n) (h2 : n ≤ 9223372036854775807) : makeR n 1 = (n, 1, true) := by
  rw [makeR_tell, if_neg (by omega)]
  exact rt_tell (rt_whole h1 h2) (by omega) rfl
theorem cmp_le {N D : Int} (h : Rt N D) : cmpR (N / D) 1 N D ≤ 0 := by
  obtain ⟨b1, b2⟩ := floor_bd h
  obtain ⟨h1, _⟩ := floor_spec (N := N) h.pos
  unfold cmpR
  rw [if_pos ⟨(rt_whole b1 b2).right, h.right⟩, Int.mul_one, Int.mul_comm]
  rcases Int.lt_or_eq_of_le h1 with h2 | h2
  · rw [Int.sign_eq_neg_one_of_neg (by omega)]; omega
  · rw [h2, Int.sub_self]; simp
theorem cmp_gt {N D : Int} (h : Rt N D) (hb : N / D < 9223372036854775807) : cmpR (N / D + 1) 1 N D = 1 := by
  obtain ⟨b1, b2⟩ := floor_bd h
  obtain ⟨_, h1⟩ := floor_spec (N := N) h.pos
  unfold cmpR
  rw [if_pos ⟨(rt_whole (by omega) (by omega)).right, h.right⟩, Int.mul_one]
  refine Int.sign_eq_one_of_pos ?_
  have : (N / D + 1) * D = D * (N / D) + D := by rw [Int.add_mul, Int.one_mul, Int.mul_comm]
  omega
theorem floor_same {N D M b : Int} (hD : 0 < D) (hb : 0 < b) (h : N * b = M * D) : N / D = M / b := by
  obtain ⟨h1, h2⟩ := floor_spec (N := N) hD
  symm
  refine ediv_of hb ?_ ?_
  · refine Int.le_of_mul_le_mul_left (a := D) ?_ hD
    have := Int.mul_le_mul_of_nonneg_left h1 (Int.le_of_lt hb)
    have e1 : D * (b * (N / D)) = b * (D * (N / D)) := by rw [← Int.mul_assoc, Int.mul_comm D b, Int.mul_assoc]
    rw [e1, Int.mul_comm D M, ← h, Int.mul_comm N b]; exact this
  · refine Int.lt_of_mul_lt_mul_left (a := D) ?_ (Int.le_of_lt hD)
    have := Int.mul_lt_mul_of_pos_left h2 hb
    have e1 : D * (b * (N / D) + b) = b * (D * (N / D) + D) := by rw [Int.mul_add, Int.mul_add, ← Int.mul_assoc, Int.mul_comm D b, Int.mul_assoc]
    rw [e1, Int.mul_comm D M, ← h, Int.mul_comm N b]; exact this
theorem half_self {n b : Int} (hb : 0 < b) : half (n * b) b = n := by
  unfold half
  exact ediv_by (2 * (n * b)) (by omega) (by grind) (by omega) (by omega)
theorem half_one (N : Int) : half N 1 = N := by have := half_self (n := N) (b := 1) (by omega); rwa [Int.mul_one] at this
theorem half_cases {N D : Int} (hD : 0 < D) : half N D = N / D ∨ half N D = N / D + 1 := by
  obtain ⟨h1, h2⟩ := floor_spec (N := N) hD
  unfold half
  by_cases h : 2 * N + D < 2 * (D * (N / D)) + 2 * D
  · exact .inl (ediv_by (2 * (D * (N / D))) (by omega) (by rw [Int.mul_assoc]) (by omega) (by omega))
  · exact .inr (ediv_by (2 * (D * (N / D)) + 2 * D) (by omega) (by rw [Int.mul_add, Int.mul_one, Int.mul_assoc]) (by omega) (by omega))
theorem more_floor {N D mN mD : Int} (h : Rt N D) (hm : Rt mN mD) (e : mN * (D * 2) = (N * 2 + 1 * D) * mD) : floorR mN mD = roundR N D := by
  rw [floorR_eq hm.right hm.abs hm.leD, roundR_eq h.right h.abs]
  refine floor_same hm.pos (by have := h.pos; omega) ?_
  rw [Int.mul_comm 2 D, e, Int.mul_comm 2 N, Int.one_mul]
theorem rt_half : Rt 1 2 := ⟨by decide, by omega, by omega, by omega, by omega⟩
end Rat

set_option maxHeartbeats 1000000 in
theorem floors_no (x0 x1 : Int) (w : World) (hx0 : -9223372036854775808 ≤ x0 ∧ x0 ≤ 9223372036854775807) (hx1 : -9223372036854775808 ≤ x1 ∧ x1 ≤ 9223372036854775807) (e1 : Rat.makeR x0 x1 = (0, 0, false)) :
    Calls Try.prog 9 #[.agg #[.int .i64 x0, .int .i64 x1]] w fun e w' => e = .returned (.bool true) ∧ Below w.heap.size w w' := by
  have H1 := Lib.hid (fun W => make_any x0 x1 W hx0 hx1)
  rw [e1] at H1
  clear e1
  have T := Lib.hid (own1 w #[.int .i64 x0, .int .i64 x1] 40)
  go_enter Try.func9, Try.ntmps9
  go_wp2_with fail
  refine (shown_any _).mono ?_
  rintro e w1 ⟨rfl, m⟩
  have T' := Lib.hid (T.out.call m)
  clear m T 
  have T := T'
  clear T'
  obtain ⟨f0, g0, -, -⟩ := (T.out.at 0 rfl).two
  go_wp2_with fail
  refine (H1.out _).mono ?_
  rintro e w2 ⟨rfl, m⟩
  have T' := Lib.hid ((T.out.call m).alloc #[.int .i64 0, .int .i64 0] 24)
  clear m T f0 g0
  have T := T'
  clear T'
  go_wp2_with fail
  go_ret
  exact ⟨rfl, T.out.mod.to_below⟩

set_option maxHeartbeats 2000000 in
set_option maxRecDepth 100000 in
theorem floors_1ta (x0 x1 : Int) (w : World) (hx0 : -9223372036854775808 ≤ x0 ∧ x0 ≤ 9223372036854775807) (hx1 : -9223372036854775808 ≤ x1 ∧ x1 ≤ 9223372036854775807)
    (N D n r c : Int) (e1 : Rat.makeR x0 x1 = (N, D, true)) (rt : Rat.Rt N D) (e2 : Rat.floorR N D = n) (e3 : Rat.roundR N D = r) (hn1 : -9223372036854775807 ≤ n) (hn2 : n ≤ 9223372036854775807) (e5 : Rat.cmpR n 1 N D = c) (hc : c ≤ 0)
    (hp : 4611686018427387904 ≤ n) (hD : D ≠ 1) (hr : r = n) (mN mD : Int) (e9 : Rat.addR N D 1 2 = (mN, mD, true)) (rm : Rat.Rt mN mD) (e7 : Rat.floorR mN mD = r) :
    Calls Try.prog 9 #[.agg #[.int .i64 x0, .int .i64 x1]] w fun e w' => e = .returned (.bool true) ∧ Below w.heap.size w w' := by
  have H1 := Lib.hid (fun W => make_any x0 x1 W hx0 hx1)
  have H2 := Lib.hid (fun W => floor_any N D W rt.bN rt.bD)
  have H3 := Lib.hid (fun W => round_any N D W rt.bN rt.bD)
  have H4 := Lib.hid (fun W => make_any n 1 W (by omega) (by omega))
  have H5 := Lib.hid (fun W => cmp_any n 1 N D W (by omega) (by omega) rt.bN rt.bD)
  have H9 := Lib.hid (fun W => add_any N D 1 2 W rt.bN rt.bD (by omega) (by omega))
  rw [e1] at H1
  rw [e2] at H2
  rw [e3] at H3
  rw [Rat.make_whole hn1 hn2] at H4
  rw [e5] at H5
  rw [e9] at H9
  have H7 := Lib.hid (fun W => floor_any mN mD W rm.bN rm.bD)
  rw [e7] at H7
  clear e1 e2 e3 e5 e9 e7 rm rt
  subst hr
  have k1 : (D != 1) = true := by simpa using hD
  have k1b : (D == 1) = false := by simpa using hD
  have k2 : (r == r) = true := by simp
  have k3 : (r != r) = false := by simp
  clear hD
  have T := Lib.hid (own1 w #[.int .i64 x0, .int .i64 x1] 40)
  go_enter Try.func9, Try.ntmps9
  go_wp2_with fail
  refine (shown_any _).mono ?_
  rintro e w3 ⟨rfl, m⟩
  have T' := Lib.hid (T.out.call m)
  clear m T 
  have T := T'
  clear T'
  obtain ⟨f0, g0, -, -⟩ := (T.out.at 0 rfl).two
  go_wp2_with fail
  refine (H1.out _).mono ?_
  rintro e w4 ⟨rfl, m⟩
  have T' := Lib.hid ((T.out.call m).alloc #[.int .i64 N, .int .i64 D] 24)
  clear m T f0 g0
  have T := T'
  clear T'
  obtain ⟨f0, g0, -, -⟩ := (T.out.at 1 rfl).two
  go_wp2_with fail
  refine (H2.out _).mono ?_
  rintro e w5 ⟨rfl, m⟩
  have T' := Lib.hid (T.out.call m)
  clear m T f0 g0
  have T := T'
  clear T'
  go_wp2_with fail
  refine (H4.out _).mono ?_
  rintro e w6 ⟨rfl, m⟩
  have T' := Lib.hid ((T.out.call m).alloc #[.int .i64 r, .int .i64 1] 24)
  clear m T 
  have T := T'
  clear T'
  obtain ⟨f0, g0, -, -⟩ := (T.out.at 2 rfl).two
  obtain ⟨f1, g1, -, -⟩ := (T.out.at 1 rfl).two
  go_wp2_with fail
  refine (H5.out _).mono ?_
  rintro e w7 ⟨rfl, m⟩
  have T' := Lib.hid (T.out.call m)
  clear m T f0 g0 f1 g1
  have T := T'
  clear T'
  obtain ⟨f0, g0, -, -⟩ := (T.out.at 1 rfl).two
  go_wp2_with fail
  refine (H9.out _).mono ?_
  rintro e w8 ⟨rfl, m⟩
  have T' := Lib.hid ((T.out.call m).alloc #[.int .i64 mN, .int .i64 mD] 24)
  clear m T f0 g0
  have T := T'
  clear T'
  go_wp2_with fail
  have A0 := (T.out.at 1 rfl).every
  have B0 := (T.out.at 3 rfl).every
  refine wp_region_mask 8 [true, true, true, true, true, true, true, true] [] (by kernel_rfl) (by kernel_rfl) (by simp) ?_
  simp only [pickM]
  refine steady_go (a' := ?_) (by kernel_rfl) ?_ (fun w' hw' K Q hK => ?_) ?_
  rotate_left 2
  · go_wp2_with fail; exact hK _ (Mod.refl _ _)
  rotate_left
  · rfl
  refine steady_go (a' := ?_) (by kernel_rfl) ?_ (fun w' hw' K Q hK => ?_) ?_
  rotate_left 2
  · go_wp2_with fail; exact hK _ (Mod.refl _ _)
  rotate_left
  · rfl
  refine steady_go (a' := ?_) (by kernel_rfl) ?_ (fun w' hw' K Q hK => ?_) ?_
  rotate_left 2
  · go_wp2_with fail; exact hK _ (Mod.refl _ _)
  rotate_left
  · rfl
  refine steady_go (a' := ?_) (by kernel_rfl) ?_ (fun w' hw' K Q hK => ?_) ?_
  rotate_left 2
  · go_wp2_with fail
    refine ((calls_mod H7.out) _ hw').mono ?_
    rintro e w'' ⟨rfl, m''⟩
    go_wp2_with fail
    exact hK _ m''
  rotate_left
  · rfl
  refine steady_go (a' := ?_) (by kernel_rfl) ?_ (fun w' hw' K Q hK => ?_) ?_
  rotate_left 2
  · go_wp2_with fail; exact hK _ (Mod.refl _ _)
  rotate_left
  · rfl
  refine steady_go (a' := ?_) (by kernel_rfl) ?_ (fun w' hw' K Q hK => ?_) ?_
  rotate_left 2
  · go_wp2_with fail
    refine ((calls_mod H3.out) _ hw').mono ?_
    rintro e w'' ⟨rfl, m''⟩
    go_wp2_with fail
    exact hK _ m''
  rotate_left
  · rfl
  refine steady_go (a' := ?_) (by kernel_rfl) ?_ (fun w' hw' K Q hK => ?_) ?_
  rotate_left 2
  · go_wp2_with fail; exact hK _ (Mod.refl _ _)
  rotate_left
  · rfl
  refine steady_go (a' := ?_) (by kernel_rfl) ?_ (fun w' hw' K Q hK => ?_) ?_
  rotate_left 2
  · go_wp2_with fail; exact hK _ (Mod.refl _ _)
  rotate_left
  · rfl
  refine steady_done ?_
  refine lates_end (fun w' hw' _ => ?_)
  simp only [List.drop_succ_cons, List.drop_nil]
  have T' := Lib.hid (T.out.call hw')
  clear A0 B0 hw' T
  have T := T'
  clear T'
  go_wp2_with fail
  have A0 := (T.out.at 1 rfl).every
  refine wp_region_mask 33 [true, true, true, true, true, true, true, true, true, true, true, true, true, true, true, true, true, true, true, true, true, true, true, true, true, true, true, true, true, true, true, true, true] [] (by kernel_rfl) (by kernel_rfl) (by simp) ?_
  simp only [pickM]
  refine steady_go (a' := ?_) (by kernel_rfl) ?_ (fun w' hw' K Q hK => ?_) ?_
  rotate_left 2
  · go_wp2_with fail; exact hK _ (Mod.refl _ _)
  rotate_left
  · rfl
  refine steady_go (a' := ?_) (by kernel_rfl) ?_ (fun w' hw' K Q hK => ?_) ?_
  rotate_left 2
  · go_wp2_with fail; exact hK _ (Mod.refl _ _)
  rotate_left
  · rfl
  refine steady_go (a' := ?_) (by kernel_rfl) ?_ (fun w' hw' K Q hK => ?_) ?_
  rotate_left 2
  · go_wp2_with fail; exact hK _ (Mod.refl _ _)
  rotate_left
  · rfl
  refine steady_go (a' := ?_) (by kernel_rfl) ?_ (fun w' hw' K Q hK => ?_) ?_
  rotate_left 2
  · go_wp2_with fail; exact hK _ (Mod.refl _ _)
  rotate_left
  · rfl
  refine steady_go (a' := ?_) (by kernel_rfl) ?_ (fun w' hw' K Q hK => ?_) ?_
  rotate_left 2
  · go_wp2_with fail; exact hK _ (Mod.refl _ _)
  rotate_left
  · rfl
  refine steady_go (a' := ?_) (by kernel_rfl) ?_ (fun w' hw' K Q hK => ?_) ?_
  rotate_left 2
  · go_wp2_with fail; exact hK _ (Mod.refl _ _)
  rotate_left
  · rfl
  refine steady_pass (by kernel_rfl) (by kernel_rfl) ?_
  refine steady_pass (by kernel_rfl) (by kernel_rfl) ?_
  refine steady_pass (by kernel_rfl) (by kernel_rfl) ?_
  refine steady_pass (by kernel_rfl) (by kernel_rfl) ?_
  refine steady_pass (by kernel_rfl) (by kernel_rfl) ?_
  refine steady_pass (by kernel_rfl) (by kernel_rfl) ?_
  refine steady_pass (by kernel_rfl) (by kernel_rfl) ?_
  refine steady_pass (by kernel_rfl) (by kernel_rfl) ?_
  refine steady_pass (by kernel_rfl) (by kernel_rfl) ?_
  refine steady_pass (by kernel_rfl) (by kernel_rfl) ?_
  refine steady_pass (by kernel_rfl) (by kernel_rfl) ?_
  refine steady_go (a' := ?_) (by kernel_rfl) ?_ (fun w' hw' K Q hK => ?_) ?_
  rotate_left 2
  · go_wp2_with fail; exact hK _ (Mod.refl _ _)
  rotate_left
  · rfl
  refine steady_go (a' := ?_) (by kernel_rfl) ?_ (fun w' hw' K Q hK => ?_) ?_
  rotate_left 2
  · go_wp2_with fail; exact hK _ (Mod.refl _ _)
  rotate_left
  · rfl
  refine steady_go (a' := ?_) (by kernel_rfl) ?_ (fun w' hw' K Q hK => ?_) ?_
  rotate_left 2
  · go_wp2_with fail; exact hK _ (Mod.refl _ _)
  rotate_left
  · rfl
  refine steady_go (a' := ?_) (by kernel_rfl) ?_ (fun w' hw' K Q hK => ?_) ?_
  rotate_left 2
  · go_wp2_with fail; exact hK _ (Mod.refl _ _)
  rotate_left
  · rfl
  refine steady_go (a' := ?_) (by kernel_rfl) ?_ (fun w' hw' K Q hK => ?_) ?_
  rotate_left 2
  · go_wp2_with fail
    refine ((calls_mod H3.out) _ hw').mono ?_
    rintro e w'' ⟨rfl, m''⟩
    go_wp2_with fail
    exact hK _ m''
  rotate_left
  · rfl
  refine steady_go (a' := ?_) (by kernel_rfl) ?_ (fun w' hw' K Q hK => ?_) ?_
  rotate_left 2
  · go_wp2_with fail; exact hK _ (Mod.refl _ _)
  rotate_left
  · rfl
  refine steady_go (a' := ?_) (by kernel_rfl) ?_ (fun w' hw' K Q hK => ?_) ?_
  rotate_left 2
  · go_wp2_with fail; exact hK _ (Mod.refl _ _)
  rotate_left
  · rfl
  refine steady_go (a' := ?_) (by kernel_rfl) ?_ (fun w' hw' K Q hK => ?_) ?_
  rotate_left 2
  · go_wp2_with fail; exact hK _ (Mod.refl _ _)
  rotate_left
  · rfl
  refine steady_pass (by kernel_rfl) (by kernel_rfl) ?_
  refine steady_pass (by kernel_rfl) (by kernel_rfl) ?_
  refine steady_pass (by kernel_rfl) (by kernel_rfl) ?_
  refine steady_pass (by kernel_rfl) (by kernel_rfl) ?_
  refine steady_pass (by kernel_rfl) (by kernel_rfl) ?_
  refine steady_go (a' := ?_) (by kernel_rfl) ?_ (fun w' hw' K Q hK => ?_) ?_
  rotate_left 2
  · go_wp2_with fail; exact hK _ (Mod.refl _ _)
  rotate_left
  · rfl
  refine steady_go (a' := ?_) (by kernel_rfl) ?_ (fun w' hw' K Q hK => ?_) ?_
  rotate_left 2
  · go_wp2_with fail; exact hK _ (Mod.refl _ _)
  rotate_left
  · rfl
  refine steady_go (a' := ?_) (by kernel_rfl) ?_ (fun w' hw' K Q hK => ?_) ?_
  rotate_left 2
  · go_wp2_with fail; exact hK _ (Mod.refl _ _)
  rotate_left
  · rfl
  refine steady_done ?_
  refine lates_end (fun w' hw' _ => ?_)
  simp only [List.drop_succ_cons, List.drop_nil]
  have M := Lib.hid (T.out.mod.then hw')
  clear A0 hw'
  go_wp2_with fail
  go_ret
  exact ⟨rfl, M.out.to_below⟩

set_option maxHeartbeats 2000000 in
set_option maxRecDepth 100000 in
theorem floors_1tb (x0 x1 : Int) (w : World) (hx0 : -9223372036854775808 ≤ x0 ∧ x0 ≤ 9223372036854775807) (hx1 : -9223372036854775808 ≤ x1 ∧ x1 ≤ 9223372036854775807)
    (N D n r c : Int) (e1 : Rat.makeR x0 x1 = (N, D, true)) (rt : Rat.Rt N D) (e2 : Rat.floorR N D = n) (e3 : Rat.roundR N D = r) (hn1 : -9223372036854775807 ≤ n) (hn2 : n ≤ 9223372036854775807) (e5 : Rat.cmpR n 1 N D = c) (hc : c ≤ 0)
    (hp : 4611686018427387904 ≤ n) (hD : D ≠ 1) (hr : r = n + 1) (hr2 : n < 9223372036854775807) (mN mD : Int) (e9 : Rat.addR N D 1 2 = (mN, mD, true)) (rm : Rat.Rt mN mD) (e7 : Rat.floorR mN mD = r) :
    Calls Try.prog 9 #[.agg #[.int .i64 x0, .int .i64 x1]] w fun e w' => e = .returned (.bool true) ∧ Below w.heap.size w w' := by
  have H1 := Lib.hid (fun W => make_any x0 x1 W hx0 hx1)
  have H2 := Lib.hid (fun W => floor_any N D W rt.bN rt.bD)
  have H3 := Lib.hid (fun W => round_any N D W rt.bN rt.bD)
  have H4 := Lib.hid (fun W => make_any n 1 W (by omega) (by omega))
  have H5 := Lib.hid (fun W => cmp_any n 1 N D W (by omega) (by omega) rt.bN rt.bD)
  have H9 := Lib.hid (fun W => add_any N D 1 2 W rt.bN rt.bD (by omega) (by omega))
  rw [e1] at H1
  rw [e2] at H2
  rw [e3] at H3
  rw [Rat.make_whole hn1 hn2] at H4
  rw [e5] at H5
  rw [e9] at H9
  have H7 := Lib.hid (fun W => floor_any mN mD W rm.bN rm.bD)
  rw [e7] at H7
  clear e1 e2 e3 e5 e9 e7 rm rt
  subst hr
  have k1 : (D != 1) = true := by simpa using hD
  have k1b : (D == 1) = false := by simpa using hD
  have k2 : (n + 1 == n) = false := by simp; omega
  have k3 : (n + 1 != n + 1) = false := by simp
  have k4 : (n + 1 == n + 1) = true := by simp
  have k5 : IntKind.i64.wrap (n + 1) = n + 1 := IntWalk.i64_in _ (by omega)
  clear hD
  have T := Lib.hid (own1 w #[.int .i64 x0, .int .i64 x1] 40)
  go_enter Try.func9, Try.ntmps9
  go_wp2_with fail
  refine (shown_any _).mono ?_
  rintro e w9 ⟨rfl, m⟩
  have T' := Lib.hid (T.out.call m)
  clear m T 
  have T := T'
  clear T'
  obtain ⟨f0, g0, -, -⟩ := (T.out.at 0 rfl).two
  go_wp2_with fail
  refine (H1.out _).mono ?_
  rintro e w10 ⟨rfl, m⟩
  have T' := Lib.hid ((T.out.call m).alloc #[.int .i64 N, .int .i64 D] 24)
  clear m T f0 g0
  have T := T'
  clear T'
  obtain ⟨f0, g0, -, -⟩ := (T.out.at 1 rfl).two
  go_wp2_with fail
  refine (H2.out _).mono ?_
  rintro e w11 ⟨rfl, m⟩
  have T' := Lib.hid (T.out.call m)
  clear m T f0 g0
  have T := T'
  clear T'
  go_wp2_with fail
  refine (H4.out _).mono ?_
  rintro e w12 ⟨rfl, m⟩
  have T' := Lib.hid ((T.out.call m).alloc #[.int .i64 n, .int .i64 1] 24)
  clear m T 
  have T := T'
  clear T'
  obtain ⟨f0, g0, -, -⟩ := (T.out.at 2 rfl).two
  obtain ⟨f1, g1, -, -⟩ := (T.out.at 1 rfl).two
  go_wp2_with fail
  refine (H5.out _).mono ?_
  rintro e w13 ⟨rfl, m⟩
  have T' := Lib.hid (T.out.call m)
  clear m T f0 g0 f1 g1
  have T := T'
  clear T'
  obtain ⟨f0, g0, -, -⟩ := (T.out.at 1 rfl).two
  go_wp2_with fail
  refine (H9.out _).mono ?_
  rintro e w14 ⟨rfl, m⟩
  have T' := Lib.hid ((T.out.call m).alloc #[.int .i64 mN, .int .i64 mD] 24)
  clear m T f0 g0
  have T := T'
  clear T'
  go_wp2_with fail
  have A0 := (T.out.at 1 rfl).every
  have B0 := (T.out.at 3 rfl).every
  refine wp_region_mask 8 [true, true, true, true, true, true, true, true] [] (by kernel_rfl) (by kernel_rfl) (by simp) ?_
  simp only [pickM]
  refine steady_go (a' := ?_) (by kernel_rfl) ?_ (fun w' hw' K Q hK => ?_) ?_
  rotate_left 2
  · go_wp2_with fail; exact hK _ (Mod.refl _ _)
  rotate_left
  · rfl
  refine steady_go (a' := ?_) (by kernel_rfl) ?_ (fun w' hw' K Q hK => ?_) ?_
  rotate_left 2
  · go_wp2_with fail; exact hK _ (Mod.refl _ _)
  rotate_left
  · rfl
  refine steady_go (a' := ?_) (by kernel_rfl) ?_ (fun w' hw' K Q hK => ?_) ?_
  rotate_left 2
  · go_wp2_with fail; exact hK _ (Mod.refl _ _)
  rotate_left
  · rfl
  refine steady_go (a' := ?_) (by kernel_rfl) ?_ (fun w' hw' K Q hK => ?_) ?_
  rotate_left 2
  · go_wp2_with fail
    refine ((calls_mod H7.out) _ hw').mono ?_
    rintro e w'' ⟨rfl, m''⟩
    go_wp2_with fail
    exact hK _ m''
  rotate_left
  · rfl
  refine steady_go (a' := ?_) (by kernel_rfl) ?_ (fun w' hw' K Q hK => ?_) ?_
  rotate_left 2
  · go_wp2_with fail; exact hK _ (Mod.refl _ _)
  rotate_left
  · rfl
  refine steady_go (a' := ?_) (by kernel_rfl) ?_ (fun w' hw' K Q hK => ?_) ?_
  rotate_left 2
  · go_wp2_with fail
    refine ((calls_mod H3.out) _ hw').mono ?_
    rintro e w'' ⟨rfl, m''⟩
    go_wp2_with fail
    exact hK _ m''
  rotate_left
  · rfl
  refine steady_go (a' := ?_) (by kernel_rfl) ?_ (fun w' hw' K Q hK => ?_) ?_
  rotate_left 2
  · go_wp2_with fail; exact hK _ (Mod.refl _ _)
  rotate_left
  · rfl
  refine steady_go (a' := ?_) (by kernel_rfl) ?_ (fun w' hw' K Q hK => ?_) ?_
  rotate_left 2
  · go_wp2_with fail; exact hK _ (Mod.refl _ _)
  rotate_left
  · rfl
  refine steady_done ?_
  refine lates_end (fun w' hw' _ => ?_)
  simp only [List.drop_succ_cons, List.drop_nil]
  have T' := Lib.hid (T.out.call hw')
  clear A0 B0 hw' T
  have T := T'
  clear T'
  go_wp2_with fail
  have A0 := (T.out.at 1 rfl).every
  refine wp_region_mask 33 [true, true, true, true, true, true, true, true, true, true, true, true, true, true, true, true, true, true, true, true, true, true, true, true, true, true, true, true, true, true, true, true, true] [] (by kernel_rfl) (by kernel_rfl) (by simp) ?_
  simp only [pickM]
  refine steady_go (a' := ?_) (by kernel_rfl) ?_ (fun w' hw' K Q hK => ?_) ?_
  rotate_left 2
  · go_wp2_with fail; exact hK _ (Mod.refl _ _)
  rotate_left
  · rfl
  refine steady_go (a' := ?_) (by kernel_rfl) ?_ (fun w' hw' K Q hK => ?_) ?_
  rotate_left 2
  · go_wp2_with fail; exact hK _ (Mod.refl _ _)
  rotate_left
  · rfl
  refine steady_go (a' := ?_) (by kernel_rfl) ?_ (fun w' hw' K Q hK => ?_) ?_
  rotate_left 2
  · go_wp2_with fail; exact hK _ (Mod.refl _ _)
  rotate_left
  · rfl
  refine steady_go (a' := ?_) (by kernel_rfl) ?_ (fun w' hw' K Q hK => ?_) ?_
  rotate_left 2
  · go_wp2_with fail; exact hK _ (Mod.refl _ _)
  rotate_left
  · rfl
  refine steady_go (a' := ?_) (by kernel_rfl) ?_ (fun w' hw' K Q hK => ?_) ?_
  rotate_left 2
  · go_wp2_with fail; exact hK _ (Mod.refl _ _)
  rotate_left
  · rfl
  refine steady_go (a' := ?_) (by kernel_rfl) ?_ (fun w' hw' K Q hK => ?_) ?_
  rotate_left 2
  · go_wp2_with fail; exact hK _ (Mod.refl _ _)
  rotate_left
  · rfl
  refine steady_pass (by kernel_rfl) (by kernel_rfl) ?_
  refine steady_pass (by kernel_rfl) (by kernel_rfl) ?_
  refine steady_pass (by kernel_rfl) (by kernel_rfl) ?_
  refine steady_pass (by kernel_rfl) (by kernel_rfl) ?_
  refine steady_pass (by kernel_rfl) (by kernel_rfl) ?_
  refine steady_pass (by kernel_rfl) (by kernel_rfl) ?_
  refine steady_pass (by kernel_rfl) (by kernel_rfl) ?_
  refine steady_pass (by kernel_rfl) (by kernel_rfl) ?_
  refine steady_pass (by kernel_rfl) (by kernel_rfl) ?_
  refine steady_pass (by kernel_rfl) (by kernel_rfl) ?_
  refine steady_pass (by kernel_rfl) (by kernel_rfl) ?_
  refine steady_go (a' := ?_) (by kernel_rfl) ?_ (fun w' hw' K Q hK => ?_) ?_
  rotate_left 2
  · go_wp2_with fail; exact hK _ (Mod.refl _ _)
  rotate_left
  · rfl
  refine steady_go (a' := ?_) (by kernel_rfl) ?_ (fun w' hw' K Q hK => ?_) ?_
  rotate_left 2
  · go_wp2_with fail; exact hK _ (Mod.refl _ _)
  rotate_left
  · rfl
  refine steady_go (a' := ?_) (by kernel_rfl) ?_ (fun w' hw' K Q hK => ?_) ?_
  rotate_left 2
  · go_wp2_with fail; exact hK _ (Mod.refl _ _)
  rotate_left
  · rfl
  refine steady_go (a' := ?_) (by kernel_rfl) ?_ (fun w' hw' K Q hK => ?_) ?_
  rotate_left 2
  · go_wp2_with fail; exact hK _ (Mod.refl _ _)
  rotate_left
  · rfl
  refine steady_go (a' := ?_) (by kernel_rfl) ?_ (fun w' hw' K Q hK => ?_) ?_
  rotate_left 2
  · go_wp2_with fail
    refine ((calls_mod H3.out) _ hw').mono ?_
    rintro e w'' ⟨rfl, m''⟩
    go_wp2_with fail
    exact hK _ m''
  rotate_left
  · rfl
  refine steady_go (a' := ?_) (by kernel_rfl) ?_ (fun w' hw' K Q hK => ?_) ?_
  rotate_left 2
  · go_wp2_with fail; exact hK _ (Mod.refl _ _)
  rotate_left
  · rfl
  refine steady_go (a' := ?_) (by kernel_rfl) ?_ (fun w' hw' K Q hK => ?_) ?_
  rotate_left 2
  · go_wp2_with fail; exact hK _ (Mod.refl _ _)
  rotate_left
  · rfl
  refine steady_go (a' := ?_) (by kernel_rfl) ?_ (fun w' hw' K Q hK => ?_) ?_
  rotate_left 2
  · go_wp2_with fail; exact hK _ (Mod.refl _ _)
  rotate_left
  · rfl
  refine steady_go (a' := ?_) (by kernel_rfl) ?_ (fun w' hw' K Q hK => ?_) ?_
  rotate_left 2
  · go_wp2_with fail; exact hK _ (Mod.refl _ _)
  rotate_left
  · rfl
  refine steady_go (a' := ?_) (by kernel_rfl) ?_ (fun w' hw' K Q hK => ?_) ?_
  rotate_left 2
  · go_wp2_with fail
    refine ((calls_mod H3.out) _ hw').mono ?_
    rintro e w'' ⟨rfl, m''⟩
    go_wp2_with fail
    exact hK _ m''
  rotate_left
  · rfl
  refine steady_go (a' := ?_) (by kernel_rfl) ?_ (fun w' hw' K Q hK => ?_) ?_
  rotate_left 2
  · go_wp2_with fail; exact hK _ (Mod.refl _ _)
  rotate_left
  · rfl
  refine steady_go (a' := ?_) (by kernel_rfl) ?_ (fun w' hw' K Q hK => ?_) ?_
  rotate_left 2
  · go_wp2_with fail; exact hK _ (Mod.refl _ _)
  rotate_left
  · rfl
  refine steady_go (a' := ?_) (by kernel_rfl) ?_ (fun w' hw' K Q hK => ?_) ?_
  rotate_left 2
  · go_wp2_with fail; exact hK _ (Mod.refl _ _)
  rotate_left
  · rfl
  refine steady_go (a' := ?_) (by kernel_rfl) ?_ (fun w' hw' K Q hK => ?_) ?_
  rotate_left 2
  · go_wp2_with fail; exact hK _ (Mod.refl _ _)
  rotate_left
  · rfl
  refine steady_go (a' := ?_) (by kernel_rfl) ?_ (fun w' hw' K Q hK => ?_) ?_
  rotate_left 2
  · go_wp2_with fail; exact hK _ (Mod.refl _ _)
  rotate_left
  · rfl
  refine steady_go (a' := ?_) (by kernel_rfl) ?_ (fun w' hw' K Q hK => ?_) ?_
  rotate_left 2
  · go_wp2_with fail; exact hK _ (Mod.refl _ _)
  rotate_left
  · rfl
  refine steady_done ?_
  refine lates_end (fun w' hw' _ => ?_)
  simp only [List.drop_succ_cons, List.drop_nil]
  have M := Lib.hid (T.out.mod.then hw')
  clear A0 hw'
  go_wp2_with fail
  go_ret
  exact ⟨rfl, M.out.to_below⟩

set_option maxHeartbeats 2000000 in
set_option maxRecDepth 100000 in
theorem floors_1tc (x0 x1 : Int) (w : World) (hx0 : -9223372036854775808 ≤ x0 ∧ x0 ≤ 9223372036854775807) (hx1 : -9223372036854775808 ≤ x1 ∧ x1 ≤ 9223372036854775807)
    (N D n r c : Int) (e1 : Rat.makeR x0 x1 = (N, D, true)) (rt : Rat.Rt N D) (e2 : Rat.floorR N D = n) (e3 : Rat.roundR N D = r) (hn1 : -9223372036854775807 ≤ n) (hn2 : n ≤ 9223372036854775807) (e5 : Rat.cmpR n 1 N D = c) (hc : c ≤ 0)
    (hp : 4611686018427387904 ≤ n) (hD : D = 1) (hr : r = n) (hN : N = n) (mN mD : Int) (e9 : Rat.addR N D 1 2 = (mN, mD, true)) (rm : Rat.Rt mN mD) (e7 : Rat.floorR mN mD = r) :
    Calls Try.prog 9 #[.agg #[.int .i64 x0, .int .i64 x1]] w fun e w' => e = .returned (.bool true) ∧ Below w.heap.size w w' := by
  have H1 := Lib.hid (fun W => make_any x0 x1 W hx0 hx1)
  have H2 := Lib.hid (fun W => floor_any N D W rt.bN rt.bD)
  have H3 := Lib.hid (fun W => round_any N D W rt.bN rt.bD)
  have H4 := Lib.hid (fun W => make_any n 1 W (by omega) (by omega))
  have H5 := Lib.hid (fun W => cmp_any n 1 N D W (by omega) (by omega) rt.bN rt.bD)
  have H9 := Lib.hid (fun W => add_any N D 1 2 W rt.bN rt.bD (by omega) (by omega))
  rw [e1] at H1
  rw [e2] at H2
  rw [e3] at H3
  rw [Rat.make_whole hn1 hn2] at H4
  rw [e5] at H5
  rw [e9] at H9
  have H7 := Lib.hid (fun W => floor_any mN mD W rm.bN rm.bD)
  rw [e7] at H7
  clear e1 e2 e3 e5 e9 e7 rm rt
  subst hr hN hD
  have k2 : (N == N) = true := by simp
  have k3 : (N != N) = false := by simp
  have T := Lib.hid (own1 w #[.int .i64 x0, .int .i64 x1] 40)
  go_enter Try.func9, Try.ntmps9
  go_wp2_with fail
  refine (shown_any _).mono ?_
  rintro e w15 ⟨rfl, m⟩
  have T' := Lib.hid (T.out.call m)
  clear m T 
  have T := T'
  clear T'
  obtain ⟨f0, g0, -, -⟩ := (T.out.at 0 rfl).two
  go_wp2_with fail
  refine (H1.out _).mono ?_
  rintro e w16 ⟨rfl, m⟩
  have T' := Lib.hid ((T.out.call m).alloc #[.int .i64 N, .int .i64 1] 24)
  clear m T f0 g0
  have T := T'
  clear T'
  obtain ⟨f0, g0, -, -⟩ := (T.out.at 1 rfl).two
  go_wp2_with fail
  refine (H2.out _).mono ?_
  rintro e w17 ⟨rfl, m⟩
  have T' := Lib.hid (T.out.call m)
  clear m T f0 g0
  have T := T'
  clear T'
  go_wp2_with fail
  refine (H4.out _).mono ?_
  rintro e w18 ⟨rfl, m⟩
  have T' := Lib.hid ((T.out.call m).alloc #[.int .i64 N, .int .i64 1] 24)
  clear m T 
  have T := T'
  clear T'
  obtain ⟨f0, g0, -, -⟩ := (T.out.at 2 rfl).two
  obtain ⟨f1, g1, -, -⟩ := (T.out.at 1 rfl).two
  go_wp2_with fail
  refine (H5.out _).mono ?_
  rintro e w19 ⟨rfl, m⟩
  have T' := Lib.hid (T.out.call m)
  clear m T f0 g0 f1 g1
  have T := T'
  clear T'
  obtain ⟨f0, g0, -, -⟩ := (T.out.at 1 rfl).two
  go_wp2_with fail
  refine (H9.out _).mono ?_
  rintro e w20 ⟨rfl, m⟩
  have T' := Lib.hid ((T.out.call m).alloc #[.int .i64 mN, .int .i64 mD] 24)
  clear m T f0 g0
  have T := T'
  clear T'
  go_wp2_with fail
  have A0 := (T.out.at 1 rfl).every
  have B0 := (T.out.at 3 rfl).every
  refine wp_region_mask 8 [true, true, true, true, true, true, true, true] [] (by kernel_rfl) (by kernel_rfl) (by simp) ?_
  simp only [pickM]
  refine steady_go (a' := ?_) (by kernel_rfl) ?_ (fun w' hw' K Q hK => ?_) ?_
  rotate_left 2
  · go_wp2_with fail; exact hK _ (Mod.refl _ _)
  rotate_left
  · rfl
  refine steady_go (a' := ?_) (by kernel_rfl) ?_ (fun w' hw' K Q hK => ?_) ?_
  rotate_left 2
  · go_wp2_with fail; exact hK _ (Mod.refl _ _)
  rotate_left
  · rfl
  refine steady_go (a' := ?_) (by kernel_rfl) ?_ (fun w' hw' K Q hK => ?_) ?_
  rotate_left 2
  · go_wp2_with fail; exact hK _ (Mod.refl _ _)
  rotate_left
  · rfl
  refine steady_go (a' := ?_) (by kernel_rfl) ?_ (fun w' hw' K Q hK => ?_) ?_
  rotate_left 2
  · go_wp2_with fail
    refine ((calls_mod H7.out) _ hw').mono ?_
    rintro e w'' ⟨rfl, m''⟩
    go_wp2_with fail
    exact hK _ m''
  rotate_left
  · rfl
  refine steady_go (a' := ?_) (by kernel_rfl) ?_ (fun w' hw' K Q hK => ?_) ?_
  rotate_left 2
  · go_wp2_with fail; exact hK _ (Mod.refl _ _)
  rotate_left
  · rfl
  refine steady_go (a' := ?_) (by kernel_rfl) ?_ (fun w' hw' K Q hK => ?_) ?_
  rotate_left 2
  · go_wp2_with fail
    refine ((calls_mod H3.out) _ hw').mono ?_
    rintro e w'' ⟨rfl, m''⟩
    go_wp2_with fail
    exact hK _ m''
  rotate_left
  · rfl
  refine steady_go (a' := ?_) (by kernel_rfl) ?_ (fun w' hw' K Q hK => ?_) ?_
  rotate_left 2
  · go_wp2_with fail; exact hK _ (Mod.refl _ _)
  rotate_left
  · rfl
  refine steady_go (a' := ?_) (by kernel_rfl) ?_ (fun w' hw' K Q hK => ?_) ?_
  rotate_left 2
  · go_wp2_with fail; exact hK _ (Mod.refl _ _)
  rotate_left
  · rfl
  refine steady_done ?_
  refine lates_end (fun w' hw' _ => ?_)
  simp only [List.drop_succ_cons, List.drop_nil]
  have T' := Lib.hid (T.out.call hw')
  clear A0 B0 hw' T
  have T := T'
  clear T'
  go_wp2_with fail
  have A0 := (T.out.at 1 rfl).every
  refine wp_region_mask 33 [true, true, true, true, true, true, true, true, true, true, true, true, true, true, true, true, true, true, true, true, true, true, true, true, true, true, true, true, true, true, true, true, true] [] (by kernel_rfl) (by kernel_rfl) (by simp) ?_
  simp only [pickM]
  refine steady_go (a' := ?_) (by kernel_rfl) ?_ (fun w' hw' K Q hK => ?_) ?_
  rotate_left 2
  · go_wp2_with fail; exact hK _ (Mod.refl _ _)
  rotate_left
  · rfl
  refine steady_go (a' := ?_) (by kernel_rfl) ?_ (fun w' hw' K Q hK => ?_) ?_
  rotate_left 2
  · go_wp2_with fail; exact hK _ (Mod.refl _ _)
  rotate_left
  · rfl
  refine steady_go (a' := ?_) (by kernel_rfl) ?_ (fun w' hw' K Q hK => ?_) ?_
  rotate_left 2
  · go_wp2_with fail; exact hK _ (Mod.refl _ _)
  rotate_left
  · rfl
  refine steady_go (a' := ?_) (by kernel_rfl) ?_ (fun w' hw' K Q hK => ?_) ?_
  rotate_left 2
  · go_wp2_with fail; exact hK _ (Mod.refl _ _)
  rotate_left
  · rfl
  refine steady_go (a' := ?_) (by kernel_rfl) ?_ (fun w' hw' K Q hK => ?_) ?_
  rotate_left 2
  · go_wp2_with fail; exact hK _ (Mod.refl _ _)
  rotate_left
  · rfl
  refine steady_go (a' := ?_) (by kernel_rfl) ?_ (fun w' hw' K Q hK => ?_) ?_
  rotate_left 2
  · go_wp2_with fail; exact hK _ (Mod.refl _ _)
  rotate_left
  · rfl
  refine steady_go (a' := ?_) (by kernel_rfl) ?_ (fun w' hw' K Q hK => ?_) ?_
  rotate_left 2
  · go_wp2_with fail; exact hK _ (Mod.refl _ _)
  rotate_left
  · rfl
  refine steady_go (a' := ?_) (by kernel_rfl) ?_ (fun w' hw' K Q hK => ?_) ?_
  rotate_left 2
  · go_wp2_with fail; exact hK _ (Mod.refl _ _)
  rotate_left
  · rfl
  refine steady_go (a' := ?_) (by kernel_rfl) ?_ (fun w' hw' K Q hK => ?_) ?_
  rotate_left 2
  · go_wp2_with fail; exact hK _ (Mod.refl _ _)
  rotate_left
  · rfl
  refine steady_go (a' := ?_) (by kernel_rfl) ?_ (fun w' hw' K Q hK => ?_) ?_
  rotate_left 2
  · go_wp2_with fail; exact hK _ (Mod.refl _ _)
  rotate_left
  · rfl
  refine steady_go (a' := ?_) (by kernel_rfl) ?_ (fun w' hw' K Q hK => ?_) ?_
  rotate_left 2
  · go_wp2_with fail; exact hK _ (Mod.refl _ _)
  rotate_left
  · rfl
  refine steady_go (a' := ?_) (by kernel_rfl) ?_ (fun w' hw' K Q hK => ?_) ?_
  rotate_left 2
  · go_wp2_with fail; exact hK _ (Mod.refl _ _)
  rotate_left
  · rfl
  refine steady_go (a' := ?_) (by kernel_rfl) ?_ (fun w' hw' K Q hK => ?_) ?_
  rotate_left 2
  · go_wp2_with fail
    refine ((calls_mod H3.out) _ hw').mono ?_
    rintro e w'' ⟨rfl, m''⟩
    go_wp2_with fail
    exact hK _ m''
  rotate_left
  · rfl
  refine steady_go (a' := ?_) (by kernel_rfl) ?_ (fun w' hw' K Q hK => ?_) ?_
  rotate_left 2
  · go_wp2_with fail; exact hK _ (Mod.refl _ _)
  rotate_left
  · rfl
  refine steady_go (a' := ?_) (by kernel_rfl) ?_ (fun w' hw' K Q hK => ?_) ?_
  rotate_left 2
  · go_wp2_with fail; exact hK _ (Mod.refl _ _)
  rotate_left
  · rfl
  refine steady_go (a' := ?_) (by kernel_rfl) ?_ (fun w' hw' K Q hK => ?_) ?_
  rotate_left 2
  · go_wp2_with fail; exact hK _ (Mod.refl _ _)
  rotate_left
  · rfl
  refine steady_go (a' := ?_) (by kernel_rfl) ?_ (fun w' hw' K Q hK => ?_) ?_
  rotate_left 2
  · go_wp2_with fail; exact hK _ (Mod.refl _ _)
  rotate_left
  · rfl
  refine steady_go (a' := ?_) (by kernel_rfl) ?_ (fun w' hw' K Q hK => ?_) ?_
  rotate_left 2
  · go_wp2_with fail; exact hK _ (Mod.refl _ _)
  rotate_left
  · rfl
  refine steady_go (a' := ?_) (by kernel_rfl) ?_ (fun w' hw' K Q hK => ?_) ?_
  rotate_left 2
  · go_wp2_with fail; exact hK _ (Mod.refl _ _)
  rotate_left
  · rfl
  refine steady_go (a' := ?_) (by kernel_rfl) ?_ (fun w' hw' K Q hK => ?_) ?_
  rotate_left 2
  · go_wp2_with fail; exact hK _ (Mod.refl _ _)
  rotate_left
  · rfl
  refine steady_go (a' := ?_) (by kernel_rfl) ?_ (fun w' hw' K Q hK => ?_) ?_
  rotate_left 2
  · go_wp2_with fail; exact hK _ (Mod.refl _ _)
  rotate_left
  · rfl
  refine steady_go (a' := ?_) (by kernel_rfl) ?_ (fun w' hw' K Q hK => ?_) ?_
  rotate_left 2
  · go_wp2_with fail
    refine ((calls_mod H3.out) _ hw').mono ?_
    rintro e w'' ⟨rfl, m''⟩
    go_wp2_with fail
    exact hK _ m''
  rotate_left
  · rfl
  refine steady_go (a' := ?_) (by kernel_rfl) ?_ (fun w' hw' K Q hK => ?_) ?_
  rotate_left 2
  · go_wp2_with fail; exact hK _ (Mod.refl _ _)
  rotate_left
  · rfl
  refine steady_go (a' := ?_) (by kernel_rfl) ?_ (fun w' hw' K Q hK => ?_) ?_
  rotate_left 2
  · go_wp2_with fail; exact hK _ (Mod.refl _ _)
  rotate_left
  · rfl
  refine steady_go (a' := ?_) (by kernel_rfl) ?_ (fun w' hw' K Q hK => ?_) ?_
  rotate_left 2
  · go_wp2_with fail; exact hK _ (Mod.refl _ _)
  rotate_left
  · rfl
  refine steady_pass (by kernel_rfl) (by kernel_rfl) ?_
  refine steady_pass (by kernel_rfl) (by kernel_rfl) ?_
  refine steady_pass (by kernel_rfl) (by kernel_rfl) ?_
  refine steady_pass (by kernel_rfl) (by kernel_rfl) ?_
  refine steady_pass (by kernel_rfl) (by kernel_rfl) ?_
  refine steady_go (a' := ?_) (by kernel_rfl) ?_ (fun w' hw' K Q hK => ?_) ?_
  rotate_left 2
  · go_wp2_with fail; exact hK _ (Mod.refl _ _)
  rotate_left
  · rfl
  refine steady_go (a' := ?_) (by kernel_rfl) ?_ (fun w' hw' K Q hK => ?_) ?_
  rotate_left 2
  · go_wp2_with fail; exact hK _ (Mod.refl _ _)
  rotate_left
  · rfl
  refine steady_go (a' := ?_) (by kernel_rfl) ?_ (fun w' hw' K Q hK => ?_) ?_
  rotate_left 2
  · go_wp2_with fail; exact hK _ (Mod.refl _ _)
  rotate_left
  · rfl
  refine steady_done ?_
  refine lates_end (fun w' hw' _ => ?_)
  simp only [List.drop_succ_cons, List.drop_nil]
  have M := Lib.hid (T.out.mod.then hw')
  clear A0 hw'
  go_wp2_with fail
  go_ret
  exact ⟨rfl, M.out.to_below⟩

set_option maxHeartbeats 2000000 in
set_option maxRecDepth 100000 in
theorem floors_1fa (x0 x1 : Int) (w : World) (hx0 : -9223372036854775808 ≤ x0 ∧ x0 ≤ 9223372036854775807) (hx1 : -9223372036854775808 ≤ x1 ∧ x1 ≤ 9223372036854775807)
    (N D n r c : Int) (e1 : Rat.makeR x0 x1 = (N, D, true)) (rt : Rat.Rt N D) (e2 : Rat.floorR N D = n) (e3 : Rat.roundR N D = r) (hn1 : -9223372036854775807 ≤ n) (hn2 : n ≤ 9223372036854775807) (e5 : Rat.cmpR n 1 N D = c) (hc : c ≤ 0)
    (hp : 4611686018427387904 ≤ n) (hD : D ≠ 1) (hr : r = n) (e9 : Rat.addR N D 1 2 = (0, 0, false)) :
    Calls Try.prog 9 #[.agg #[.int .i64 x0, .int .i64 x1]] w fun e w' => e = .returned (.bool true) ∧ Below w.heap.size w w' := by
  have H1 := Lib.hid (fun W => make_any x0 x1 W hx0 hx1)
  have H2 := Lib.hid (fun W => floor_any N D W rt.bN rt.bD)
  have H3 := Lib.hid (fun W => round_any N D W rt.bN rt.bD)
  have H4 := Lib.hid (fun W => make_any n 1 W (by omega) (by omega))
  have H5 := Lib.hid (fun W => cmp_any n 1 N D W (by omega) (by omega) rt.bN rt.bD)
  have H9 := Lib.hid (fun W => add_any N D 1 2 W rt.bN rt.bD (by omega) (by omega))
  rw [e1] at H1
  rw [e2] at H2
  rw [e3] at H3
  rw [Rat.make_whole hn1 hn2] at H4
  rw [e5] at H5
  rw [e9] at H9
  clear e1 e2 e3 e5 e9 rt
  subst hr
  have k1 : (D != 1) = true := by simpa using hD
  have k1b : (D == 1) = false := by simpa using hD
  have k2 : (r == r) = true := by simp
  have k3 : (r != r) = false := by simp
  clear hD
  have T := Lib.hid (own1 w #[.int .i64 x0, .int .i64 x1] 40)
  go_enter Try.func9, Try.ntmps9
  go_wp2_with fail
  refine (shown_any _).mono ?_
  rintro e w21 ⟨rfl, m⟩
  have T' := Lib.hid (T.out.call m)
  clear m T 
  have T := T'
  clear T'
  obtain ⟨f0, g0, -, -⟩ := (T.out.at 0 rfl).two
  go_wp2_with fail
  refine (H1.out _).mono ?_
  rintro e w22 ⟨rfl, m⟩
  have T' := Lib.hid ((T.out.call m).alloc #[.int .i64 N, .int .i64 D] 24)
  clear m T f0 g0
  have T := T'
  clear T'
  obtain ⟨f0, g0, -, -⟩ := (T.out.at 1 rfl).two
  go_wp2_with fail
  refine (H2.out _).mono ?_
  rintro e w23 ⟨rfl, m⟩
  have T' := Lib.hid (T.out.call m)
  clear m T f0 g0
  have T := T'
  clear T'
  go_wp2_with fail
  refine (H4.out _).mono ?_
  rintro e w24 ⟨rfl, m⟩
  have T' := Lib.hid ((T.out.call m).alloc #[.int .i64 r, .int .i64 1] 24)
  clear m T 
  have T := T'
  clear T'
  obtain ⟨f0, g0, -, -⟩ := (T.out.at 2 rfl).two
  obtain ⟨f1, g1, -, -⟩ := (T.out.at 1 rfl).two
  go_wp2_with fail
  refine (H5.out _).mono ?_
  rintro e w25 ⟨rfl, m⟩
  have T' := Lib.hid (T.out.call m)
  clear m T f0 g0 f1 g1
  have T := T'
  clear T'
  obtain ⟨f0, g0, -, -⟩ := (T.out.at 1 rfl).two
  go_wp2_with fail
  refine (H9.out _).mono ?_
  rintro e w26 ⟨rfl, m⟩
  have T' := Lib.hid ((T.out.call m).alloc #[.int .i64 0, .int .i64 0] 24)
  clear m T f0 g0
  have T := T'
  clear T'
  go_wp2_with fail
  have A0 := (T.out.at 1 rfl).every
  refine wp_region_mask 8 [true, true, true, true, true, true, true, true] [] (by kernel_rfl) (by kernel_rfl) (by simp) ?_
  simp only [pickM]
  refine steady_go (a' := ?_) (by kernel_rfl) ?_ (fun w' hw' K Q hK => ?_) ?_
  rotate_left 2
  · go_wp2_with fail; exact hK _ (Mod.refl _ _)
  rotate_left
  · rfl
  refine steady_go (a' := ?_) (by kernel_rfl) ?_ (fun w' hw' K Q hK => ?_) ?_
  rotate_left 2
  · go_wp2_with fail; exact hK _ (Mod.refl _ _)
  rotate_left
  · rfl
  refine steady_pass (by kernel_rfl) (by kernel_rfl) ?_
  refine steady_pass (by kernel_rfl) (by kernel_rfl) ?_
  refine steady_pass (by kernel_rfl) (by kernel_rfl) ?_
  refine steady_pass (by kernel_rfl) (by kernel_rfl) ?_
  refine steady_pass (by kernel_rfl) (by kernel_rfl) ?_
  refine steady_go (a' := ?_) (by kernel_rfl) ?_ (fun w' hw' K Q hK => ?_) ?_
  rotate_left 2
  · go_wp2_with fail; exact hK _ (Mod.refl _ _)
  rotate_left
  · rfl
  refine steady_done ?_
  refine lates_end (fun w' hw' _ => ?_)
  simp only [List.drop_succ_cons, List.drop_nil]
  have T' := Lib.hid (T.out.call hw')
  clear A0  hw' T
  have T := T'
  clear T'
  go_wp2_with fail
  have A0 := (T.out.at 1 rfl).every
  refine wp_region_mask 33 [true, true, true, true, true, true, true, true, true, true, true, true, true, true, true, true, true, true, true, true, true, true, true, true, true, true, true, true, true, true, true, true, true] [] (by kernel_rfl) (by kernel_rfl) (by simp) ?_
  simp only [pickM]
  refine steady_go (a' := ?_) (by kernel_rfl) ?_ (fun w' hw' K Q hK => ?_) ?_
  rotate_left 2
  · go_wp2_with fail; exact hK _ (Mod.refl _ _)
  rotate_left
  · rfl
  refine steady_go (a' := ?_) (by kernel_rfl) ?_ (fun w' hw' K Q hK => ?_) ?_
  rotate_left 2
  · go_wp2_with fail; exact hK _ (Mod.refl _ _)
  rotate_left
  · rfl
  refine steady_go (a' := ?_) (by kernel_rfl) ?_ (fun w' hw' K Q hK => ?_) ?_
  rotate_left 2
  · go_wp2_with fail; exact hK _ (Mod.refl _ _)
  rotate_left
  · rfl
  refine steady_go (a' := ?_) (by kernel_rfl) ?_ (fun w' hw' K Q hK => ?_) ?_
  rotate_left 2
  · go_wp2_with fail; exact hK _ (Mod.refl _ _)
  rotate_left
  · rfl
  refine steady_go (a' := ?_) (by kernel_rfl) ?_ (fun w' hw' K Q hK => ?_) ?_
  rotate_left 2
  · go_wp2_with fail; exact hK _ (Mod.refl _ _)
  rotate_left
  · rfl
  refine steady_go (a' := ?_) (by kernel_rfl) ?_ (fun w' hw' K Q hK => ?_) ?_
  rotate_left 2
  · go_wp2_with fail; exact hK _ (Mod.refl _ _)
  rotate_left
  · rfl
  refine steady_pass (by kernel_rfl) (by kernel_rfl) ?_
  refine steady_pass (by kernel_rfl) (by kernel_rfl) ?_
  refine steady_pass (by kernel_rfl) (by kernel_rfl) ?_
  refine steady_pass (by kernel_rfl) (by kernel_rfl) ?_
  refine steady_pass (by kernel_rfl) (by kernel_rfl) ?_
  refine steady_pass (by kernel_rfl) (by kernel_rfl) ?_
  refine steady_pass (by kernel_rfl) (by kernel_rfl) ?_
  refine steady_pass (by kernel_rfl) (by kernel_rfl) ?_
  refine steady_pass (by kernel_rfl) (by kernel_rfl) ?_
  refine steady_pass (by kernel_rfl) (by kernel_rfl) ?_
  refine steady_pass (by kernel_rfl) (by kernel_rfl) ?_
  refine steady_go (a' := ?_) (by kernel_rfl) ?_ (fun w' hw' K Q hK => ?_) ?_
  rotate_left 2
  · go_wp2_with fail; exact hK _ (Mod.refl _ _)
  rotate_left
  · rfl
  refine steady_go (a' := ?_) (by kernel_rfl) ?_ (fun w' hw' K Q hK => ?_) ?_
  rotate_left 2
  · go_wp2_with fail; exact hK _ (Mod.refl _ _)
  rotate_left
  · rfl
  refine steady_go (a' := ?_) (by kernel_rfl) ?_ (fun w' hw' K Q hK => ?_) ?_
  rotate_left 2
  · go_wp2_with fail; exact hK _ (Mod.refl _ _)
  rotate_left
  · rfl
  refine steady_go (a' := ?_) (by kernel_rfl) ?_ (fun w' hw' K Q hK => ?_) ?_
  rotate_left 2
  · go_wp2_with fail; exact hK _ (Mod.refl _ _)
  rotate_left
  · rfl
  refine steady_go (a' := ?_) (by kernel_rfl) ?_ (fun w' hw' K Q hK => ?_) ?_
  rotate_left 2
  · go_wp2_with fail
    refine ((calls_mod H3.out) _ hw').mono ?_
    rintro e w'' ⟨rfl, m''⟩
    go_wp2_with fail
    exact hK _ m''
  rotate_left
  · rfl
  refine steady_go (a' := ?_) (by kernel_rfl) ?_ (fun w' hw' K Q hK => ?_) ?_
  rotate_left 2
  · go_wp2_with fail; exact hK _ (Mod.refl _ _)
  rotate_left
  · rfl
  refine steady_go (a' := ?_) (by kernel_rfl) ?_ (fun w' hw' K Q hK => ?_) ?_
  rotate_left 2
  · go_wp2_with fail; exact hK _ (Mod.refl _ _)
  rotate_left
  · rfl
  refine steady_go (a' := ?_) (by kernel_rfl) ?_ (fun w' hw' K Q hK => ?_) ?_
  rotate_left 2
  · go_wp2_with fail; exact hK _ (Mod.refl _ _)
  rotate_left
  · rfl
  refine steady_pass (by kernel_rfl) (by kernel_rfl) ?_
  refine steady_pass (by kernel_rfl) (by kernel_rfl) ?_
  refine steady_pass (by kernel_rfl) (by kernel_rfl) ?_
  refine steady_pass (by kernel_rfl) (by kernel_rfl) ?_
  refine steady_pass (by kernel_rfl) (by kernel_rfl) ?_
  refine steady_go (a' := ?_) (by kernel_rfl) ?_ (fun w' hw' K Q hK => ?_) ?_
  rotate_left 2
  · go_wp2_with fail; exact hK _ (Mod.refl _ _)
  rotate_left
  · rfl
  refine steady_go (a' := ?_) (by kernel_rfl) ?_ (fun w' hw' K Q hK => ?_) ?_
  rotate_left 2
  · go_wp2_with fail; exact hK _ (Mod.refl _ _)
  rotate_left
  · rfl
  refine steady_go (a' := ?_) (by kernel_rfl) ?_ (fun w' hw' K Q hK => ?_) ?_
  rotate_left 2
  · go_wp2_with fail; exact hK _ (Mod.refl _ _)
  rotate_left
  · rfl
  refine steady_done ?_
  refine lates_end (fun w' hw' _ => ?_)
  simp only [List.drop_succ_cons, List.drop_nil]
  have M := Lib.hid (T.out.mod.then hw')
  clear A0 hw'
  go_wp2_with fail
  go_ret
  exact ⟨rfl, M.out.to_below⟩

set_option maxHeartbeats 2000000 in
set_option maxRecDepth 100000 in
theorem floors_1fb (x0 x1 : Int) (w : World) (hx0 : -9223372036854775808 ≤ x0 ∧ x0 ≤ 9223372036854775807) (hx1 : -9223372036854775808 ≤ x1 ∧ x1 ≤ 9223372036854775807)
    (N D n r c : Int) (e1 : Rat.makeR x0 x1 = (N, D, true)) (rt : Rat.Rt N D) (e2 : Rat.floorR N D = n) (e3 : Rat.roundR N D = r) (hn1 : -9223372036854775807 ≤ n) (hn2 : n ≤ 9223372036854775807) (e5 : Rat.cmpR n 1 N D = c) (hc : c ≤ 0)
    (hp : 4611686018427387904 ≤ n) (hD : D ≠ 1) (hr : r = n + 1) (hr2 : n < 9223372036854775807) (e9 : Rat.addR N D 1 2 = (0, 0, false)) :
    Calls Try.prog 9 #[.agg #[.int .i64 x0, .int .i64 x1]] w fun e w' => e = .returned (.bool true) ∧ Below w.heap.size w w' := by
  have H1 := Lib.hid (fun W => make_any x0 x1 W hx0 hx1)
  have H2 := Lib.hid (fun W => floor_any N D W rt.bN rt.bD)
  have H3 := Lib.hid (fun W => round_any N D W rt.bN rt.bD)
  have H4 := Lib.hid (fun W => make_any n 1 W (by omega) (by omega))
  have H5 := Lib.hid (fun W => cmp_any n 1 N D W (by omega) (by omega) rt.bN rt.bD)
  have H9 := Lib.hid (fun W => add_any N D 1 2 W rt.bN rt.bD (by omega) (by omega))
  rw [e1] at H1
  rw [e2] at H2
  rw [e3] at H3
  rw [Rat.make_whole hn1 hn2] at H4
  rw [e5] at H5
  rw [e9] at H9
  clear e1 e2 e3 e5 e9 rt
  subst hr
  have k1 : (D != 1) = true := by simpa using hD
  have k1b : (D == 1) = false := by simpa using hD
  have k2 : (n + 1 == n) = false := by simp; omega
  have k3 : (n + 1 != n + 1) = false := by simp
  have k4 : (n + 1 == n + 1) = true := by simp
  have k5 : IntKind.i64.wrap (n + 1) = n + 1 := IntWalk.i64_in _ (by omega)
  clear hD
  have T := Lib.hid (own1 w #[.int .i64 x0, .int .i64 x1] 40)
  go_enter Try.func9, Try.ntmps9
  go_wp2_with fail
  refine (shown_any _).mono ?_
  rintro e w27 ⟨rfl, m⟩
  have T' := Lib.hid (T.out.call m)
  clear m T 
  have T := T'
  clear T'
  obtain ⟨f0, g0, -, -⟩ := (T.out.at 0 rfl).two
  go_wp2_with fail
  refine (H1.out _).mono ?_
  rintro e w28 ⟨rfl, m⟩
  have T' := Lib.hid ((T.out.call m).alloc #[.int .i64 N, .int .i64 D] 24)
  clear m T f0 g0
  have T := T'
  clear T'
  obtain ⟨f0, g0, -, -⟩ := (T.out.at 1 rfl).two
  go_wp2_with fail
  refine (H2.out _).mono ?_
  rintro e w29 ⟨rfl, m⟩
  have T' := Lib.hid (T.out.call m)
  clear m T f0 g0
  have T := T'
  clear T'
  go_wp2_with fail
  refine (H4.out _).mono ?_
  rintro e w30 ⟨rfl, m⟩
  have T' := Lib.hid ((T.out.call m).alloc #[.int .i64 n, .int .i64 1] 24)
  clear m T 
  have T := T'
  clear T'
  obtain ⟨f0, g0, -, -⟩ := (T.out.at 2 rfl).two
  obtain ⟨f1, g1, -, -⟩ := (T.out.at 1 rfl).two
  go_wp2_with fail
  refine (H5.out _).mono ?_
  rintro e w31 ⟨rfl, m⟩
  have T' := Lib.hid (T.out.call m)
  clear m T f0 g0 f1 g1
  have T := T'
  clear T'
  obtain ⟨f0, g0, -, -⟩ := (T.out.at 1 rfl).two
  go_wp2_with fail
  refine (H9.out _).mono ?_
  rintro e w32 ⟨rfl, m⟩
  have T' := Lib.hid ((T.out.call m).alloc #[.int .i64 0, .int .i64 0] 24)
  clear m T f0 g0
  have T := T'
  clear T'
  go_wp2_with fail
  have A0 := (T.out.at 1 rfl).every
  refine wp_region_mask 8 [true, true, true, true, true, true, true, true] [] (by kernel_rfl) (by kernel_rfl) (by simp) ?_
  simp only [pickM]
  refine steady_go (a' := ?_) (by kernel_rfl) ?_ (fun w' hw' K Q hK => ?_) ?_
  rotate_left 2
  · go_wp2_with fail; exact hK _ (Mod.refl _ _)
  rotate_left
  · rfl
  refine steady_go (a' := ?_) (by kernel_rfl) ?_ (fun w' hw' K Q hK => ?_) ?_
  rotate_left 2
  · go_wp2_with fail; exact hK _ (Mod.refl _ _)
  rotate_left
  · rfl
  refine steady_pass (by kernel_rfl) (by kernel_rfl) ?_
  refine steady_pass (by kernel_rfl) (by kernel_rfl) ?_
  refine steady_pass (by kernel_rfl) (by kernel_rfl) ?_
  refine steady_pass (by kernel_rfl) (by kernel_rfl) ?_
  refine steady_pass (by kernel_rfl) (by kernel_rfl) ?_
  refine steady_go (a' := ?_) (by kernel_rfl) ?_ (fun w' hw' K Q hK => ?_) ?_
  rotate_left 2
  · go_wp2_with fail; exact hK _ (Mod.refl _ _)
  rotate_left
  · rfl
  refine steady_done ?_
  refine lates_end (fun w' hw' _ => ?_)
  simp only [List.drop_succ_cons, List.drop_nil]
  have T' := Lib.hid (T.out.call hw')
  clear A0  hw' T
  have T := T'
  clear T'
  go_wp2_with fail
  have A0 := (T.out.at 1 rfl).every
  refine wp_region_mask 33 [true, true, true, true, true, true, true, true, true, true, true, true, true, true, true, true, true, true, true, true, true, true, true, true, true, true, true, true, true, true, true, true, true] [] (by kernel_rfl) (by kernel_rfl) (by simp) ?_
  simp only [pickM]
  refine steady_go (a' := ?_) (by kernel_rfl) ?_ (fun w' hw' K Q hK => ?_) ?_
  rotate_left 2
  · go_wp2_with fail; exact hK _ (Mod.refl _ _)
  rotate_left
  · rfl
  refine steady_go (a' := ?_) (by kernel_rfl) ?_ (fun w' hw' K Q hK => ?_) ?_
  rotate_left 2
  · go_wp2_with fail; exact hK _ (Mod.refl _ _)
  rotate_left
  · rfl
  refine steady_go (a' := ?_) (by kernel_rfl) ?_ (fun w' hw' K Q hK => ?_) ?_
  rotate_left 2
  · go_wp2_with fail; exact hK _ (Mod.refl _ _)
  rotate_left
  · rfl
  refine steady_go (a' := ?_) (by kernel_rfl) ?_ (fun w' hw' K Q hK => ?_) ?_
  rotate_left 2
  · go_wp2_with fail; exact hK _ (Mod.refl _ _)
  rotate_left
  · rfl
  refine steady_go (a' := ?_) (by kernel_rfl) ?_ (fun w' hw' K Q hK => ?_) ?_
  rotate_left 2
  · go_wp2_with fail; exact hK _ (Mod.refl _ _)
  rotate_left
  · rfl
  refine steady_go (a' := ?_) (by kernel_rfl) ?_ (fun w' hw' K Q hK => ?_) ?_
  rotate_left 2
  · go_wp2_with fail; exact hK _ (Mod.refl _ _)
  rotate_left
  · rfl
  refine steady_pass (by kernel_rfl) (by kernel_rfl) ?_
  refine steady_pass (by kernel_rfl) (by kernel_rfl) ?_
  refine steady_pass (by kernel_rfl) (by kernel_rfl) ?_
  refine steady_pass (by kernel_rfl) (by kernel_rfl) ?_
  refine steady_pass (by kernel_rfl) (by kernel_rfl) ?_
  refine steady_pass (by kernel_rfl) (by kernel_rfl) ?_
  refine steady_pass (by kernel_rfl) (by kernel_rfl) ?_
  refine steady_pass (by kernel_rfl) (by kernel_rfl) ?_
  refine steady_pass (by kernel_rfl) (by kernel_rfl) ?_
  refine steady_pass (by kernel_rfl) (by kernel_rfl) ?_
  refine steady_pass (by kernel_rfl) (by kernel_rfl) ?_
  refine steady_go (a' := ?_) (by kernel_rfl) ?_ (fun w' hw' K Q hK => ?_) ?_
  rotate_left 2
  · go_wp2_with fail; exact hK _ (Mod.refl _ _)
  rotate_left
  · rfl
  refine steady_go (a' := ?_) (by kernel_rfl) ?_ (fun w' hw' K Q hK => ?_) ?_
  rotate_left 2
  · go_wp2_with fail; exact hK _ (Mod.refl _ _)
  rotate_left
  · rfl
  refine steady_go (a' := ?_) (by kernel_rfl) ?_ (fun w' hw' K Q hK => ?_) ?_
  rotate_left 2
  · go_wp2_with fail; exact hK _ (Mod.refl _ _)
  rotate_left
  · rfl
  refine steady_go (a' := ?_) (by kernel_rfl) ?_ (fun w' hw' K Q hK => ?_) ?_
  rotate_left 2
  · go_wp2_with fail; exact hK _ (Mod.refl _ _)
  rotate_left
  · rfl
  refine steady_go (a' := ?_) (by kernel_rfl) ?_ (fun w' hw' K Q hK => ?_) ?_
  rotate_left 2
  · go_wp2_with fail
    refine ((calls_mod H3.out) _ hw').mono ?_
    rintro e w'' ⟨rfl, m''⟩
    go_wp2_with fail
    exact hK _ m''
  rotate_left
  · rfl
  refine steady_go (a' := ?_) (by kernel_rfl) ?_ (fun w' hw' K Q hK => ?_) ?_
  rotate_left 2
  · go_wp2_with fail; exact hK _ (Mod.refl _ _)
  rotate_left
  · rfl
  refine steady_go (a' := ?_) (by kernel_rfl) ?_ (fun w' hw' K Q hK => ?_) ?_
  rotate_left 2
  · go_wp2_with fail; exact hK _ (Mod.refl _ _)
  rotate_left
  · rfl
  refine steady_go (a' := ?_) (by kernel_rfl) ?_ (fun w' hw' K Q hK => ?_) ?_
  rotate_left 2
  · go_wp2_with fail; exact hK _ (Mod.refl _ _)
  rotate_left
  · rfl
  refine steady_go (a' := ?_) (by kernel_rfl) ?_ (fun w' hw' K Q hK => ?_) ?_
  rotate_left 2
  · go_wp2_with fail; exact hK _ (Mod.refl _ _)
  rotate_left
  · rfl
  refine steady_go (a' := ?_) (by kernel_rfl) ?_ (fun w' hw' K Q hK => ?_) ?_
  rotate_left 2
  · go_wp2_with fail
    refine ((calls_mod H3.out) _ hw').mono ?_
    rintro e w'' ⟨rfl, m''⟩
    go_wp2_with fail
    exact hK _ m''
  rotate_left
  · rfl
  refine steady_go (a' := ?_) (by kernel_rfl) ?_ (fun w' hw' K Q hK => ?_) ?_
  rotate_left 2
  · go_wp2_with fail; exact hK _ (Mod.refl _ _)
  rotate_left
  · rfl
  refine steady_go (a' := ?_) (by kernel_rfl) ?_ (fun w' hw' K Q hK => ?_) ?_
  rotate_left 2
  · go_wp2_with fail; exact hK _ (Mod.refl _ _)
  rotate_left
  · rfl
  refine steady_go (a' := ?_) (by kernel_rfl) ?_ (fun w' hw' K Q hK => ?_) ?_
  rotate_left 2
  · go_wp2_with fail; exact hK _ (Mod.refl _ _)
  rotate_left
  · rfl
  refine steady_go (a' := ?_) (by kernel_rfl) ?_ (fun w' hw' K Q hK => ?_) ?_
  rotate_left 2
  · go_wp2_with fail; exact hK _ (Mod.refl _ _)
  rotate_left
  · rfl
  refine steady_go (a' := ?_) (by kernel_rfl) ?_ (fun w' hw' K Q hK => ?_) ?_
  rotate_left 2
  · go_wp2_with fail; exact hK _ (Mod.refl _ _)
  rotate_left
  · rfl
  refine steady_go (a' := ?_) (by kernel_rfl) ?_ (fun w' hw' K Q hK => ?_) ?_
  rotate_left 2
  · go_wp2_with fail; exact hK _ (Mod.refl _ _)
  rotate_left
  · rfl
  refine steady_done ?_
  refine lates_end (fun w' hw' _ => ?_)
  simp only [List.drop_succ_cons, List.drop_nil]
  have M := Lib.hid (T.out.mod.then hw')
  clear A0 hw'
  go_wp2_with fail
  go_ret
  exact ⟨rfl, M.out.to_below⟩

set_option maxHeartbeats 2000000 in
set_option maxRecDepth 100000 in
theorem floors_1fc (x0 x1 : Int) (w : World) (hx0 : -9223372036854775808 ≤ x0 ∧ x0 ≤ 9223372036854775807) (hx1 : -9223372036854775808 ≤ x1 ∧ x1 ≤ 9223372036854775807)
    (N D n r c : Int) (e1 : Rat.makeR x0 x1 = (N, D, true)) (rt : Rat.Rt N D) (e2 : Rat.floorR N D = n) (e3 : Rat.roundR N D = r) (hn1 : -9223372036854775807 ≤ n) (hn2 : n ≤ 9223372036854775807) (e5 : Rat.cmpR n 1 N D = c) (hc : c ≤ 0)
    (hp : 4611686018427387904 ≤ n) (hD : D = 1) (hr : r = n) (hN : N = n) (e9 : Rat.addR N D 1 2 = (0, 0, false)) :
    Calls Try.prog 9 #[.agg #[.int .i64 x0, .int .i64 x1]] w fun e w' => e = .returned (.bool true) ∧ Below w.heap.size w w' := by
  have H1 := Lib.hid (fun W => make_any x0 x1 W hx0 hx1)
  have H2 := Lib.hid (fun W => floor_any N D W rt.bN rt.bD)
  have H3 := Lib.hid (fun W => round_any N D W rt.bN rt.bD)
  have H4 := Lib.hid (fun W => make_any n 1 W (by omega) (by omega))
  have H5 := Lib.hid (fun W => cmp_any n 1 N D W (by omega) (by omega) rt.bN rt.bD)
  have H9 := Lib.hid (fun W => add_any N D 1 2 W rt.bN rt.bD (by omega) (by omega))
  rw [e1] at H1
  rw [e2] at H2
  rw [e3] at H3
  rw [Rat.make_whole hn1 hn2] at H4
  rw [e5] at H5
  rw [e9] at H9
  clear e1 e2 e3 e5 e9 rt
  subst hr hN hD
  have k2 : (N == N) = true := by simp
  have k3 : (N != N) = false := by simp
  have T := Lib.hid (own1 w #[.int .i64 x0, .int .i64 x1] 40)
  go_enter Try.func9, Try.ntmps9
  go_wp2_with fail
  refine (shown_any _).mono ?_
  rintro e w33 ⟨rfl, m⟩
  have T' := Lib.hid (T.out.call m)
  clear m T 
  have T := T'
  clear T'
  obtain ⟨f0, g0, -, -⟩ := (T.out.at 0 rfl).two
  go_wp2_with fail
  refine (H1.out _).mono ?_
  rintro e w34 ⟨rfl, m⟩
  have T' := Lib.hid ((T.out.call m).alloc #[.int .i64 N, .int .i64 1] 24)
  clear m T f0 g0
  have T := T'
  clear T'
  obtain ⟨f0, g0, -, -⟩ := (T.out.at 1 rfl).two
  go_wp2_with fail
  refine (H2.out _).mono ?_
  rintro e w35 ⟨rfl, m⟩
  have T' := Lib.hid (T.out.call m)
  clear m T f0 g0
  have T := T'
  clear T'
  go_wp2_with fail
  refine (H4.out _).mono ?_
  rintro e w36 ⟨rfl, m⟩
  have T' := Lib.hid ((T.out.call m).alloc #[.int .i64 N, .int .i64 1] 24)
  clear m T 
  have T := T'
  clear T'
  obtain ⟨f0, g0, -, -⟩ := (T.out.at 2 rfl).two
  obtain ⟨f1, g1, -, -⟩ := (T.out.at 1 rfl).two
  go_wp2_with fail
  refine (H5.out _).mono ?_
  rintro e w37 ⟨rfl, m⟩
  have T' := Lib.hid (T.out.call m)
  clear m T f0 g0 f1 g1
  have T := T'
  clear T'
  obtain ⟨f0, g0, -, -⟩ := (T.out.at 1 rfl).two
  go_wp2_with fail
  refine (H9.out _).mono ?_
  rintro e w38 ⟨rfl, m⟩
  have T' := Lib.hid ((T.out.call m).alloc #[.int .i64 0, .int .i64 0] 24)
  clear m T f0 g0
  have T := T'
  clear T'
  go_wp2_with fail
  have A0 := (T.out.at 1 rfl).every
  refine wp_region_mask 8 [true, true, true, true, true, true, true, true] [] (by kernel_rfl) (by kernel_rfl) (by simp) ?_
  simp only [pickM]
  refine steady_go (a' := ?_) (by kernel_rfl) ?_ (fun w' hw' K Q hK => ?_) ?_
  rotate_left 2
  · go_wp2_with fail; exact hK _ (Mod.refl _ _)
  rotate_left
  · rfl
  refine steady_go (a' := ?_) (by kernel_rfl) ?_ (fun w' hw' K Q hK => ?_) ?_
  rotate_left 2
  · go_wp2_with fail; exact hK _ (Mod.refl _ _)
  rotate_left
  · rfl
  refine steady_pass (by kernel_rfl) (by kernel_rfl) ?_
  refine steady_pass (by kernel_rfl) (by kernel_rfl) ?_
  refine steady_pass (by kernel_rfl) (by kernel_rfl) ?_
  refine steady_pass (by kernel_rfl) (by kernel_rfl) ?_
  refine steady_pass (by kernel_rfl) (by kernel_rfl) ?_
  refine steady_go (a' := ?_) (by kernel_rfl) ?_ (fun w' hw' K Q hK => ?_) ?_
  rotate_left 2
  · go_wp2_with fail; exact hK _ (Mod.refl _ _)
  rotate_left
  · rfl
  refine steady_done ?_
  refine lates_end (fun w' hw' _ => ?_)
  simp only [List.drop_succ_cons, List.drop_nil]
  have T' := Lib.hid (T.out.call hw')
  clear A0  hw' T
  have T := T'
  clear T'
  go_wp2_with fail
  have A0 := (T.out.at 1 rfl).every
  refine wp_region_mask 33 [true, true, true, true, true, true, true, true, true, true, true, true, true, true, true, true, true, true, true, true, true, true, true, true, true, true, true, true, true, true, true, true, true] [] (by kernel_rfl) (by kernel_rfl) (by simp) ?_
  simp only [pickM]
  refine steady_go (a' := ?_) (by kernel_rfl) ?_ (fun w' hw' K Q hK => ?_) ?_
  rotate_left 2
  · go_wp2_with fail; exact hK _ (Mod.refl _ _)
  rotate_left
  · rfl
  refine steady_go (a' := ?_) (by kernel_rfl) ?_ (fun w' hw' K Q hK => ?_) ?_
  rotate_left 2
  · go_wp2_with fail; exact hK _ (Mod.refl _ _)
  rotate_left
  · rfl
  refine steady_go (a' := ?_) (by kernel_rfl) ?_ (fun w' hw' K Q hK => ?_) ?_
  rotate_left 2
  · go_wp2_with fail; exact hK _ (Mod.refl _ _)
  rotate_left
  · rfl
  refine steady_go (a' := ?_) (by kernel_rfl) ?_ (fun w' hw' K Q hK => ?_) ?_
  rotate_left 2
  · go_wp2_with fail; exact hK _ (Mod.refl _ _)
  rotate_left
  · rfl
  refine steady_go (a' := ?_) (by kernel_rfl) ?_ (fun w' hw' K Q hK => ?_) ?_
  rotate_left 2
  · go_wp2_with fail; exact hK _ (Mod.refl _ _)
  rotate_left
  · rfl
  refine steady_go (a' := ?_) (by kernel_rfl) ?_ (fun w' hw' K Q hK => ?_) ?_
  rotate_left 2
  · go_wp2_with fail; exact hK _ (Mod.refl _ _)
  rotate_left
  · rfl
  refine steady_go (a' := ?_) (by kernel_rfl) ?_ (fun w' hw' K Q hK => ?_) ?_
  rotate_left 2
  · go_wp2_with fail; exact hK _ (Mod.refl _ _)
  rotate_left
  · rfl
  refine steady_go (a' := ?_) (by kernel_rfl) ?_ (fun w' hw' K Q hK => ?_) ?_
  rotate_left 2
  · go_wp2_with fail; exact hK _ (Mod.refl _ _)
  rotate_left
  · rfl
  refine steady_go (a' := ?_) (by kernel_rfl) ?_ (fun w' hw' K Q hK => ?_) ?_
  rotate_left 2
  · go_wp2_with fail; exact hK _ (Mod.refl _ _)
  rotate_left
  · rfl
  refine steady_go (a' := ?_) (by kernel_rfl) ?_ (fun w' hw' K Q hK => ?_) ?_
  rotate_left 2
  · go_wp2_with fail; exact hK _ (Mod.refl _ _)
  rotate_left
  · rfl
  refine steady_go (a' := ?_) (by kernel_rfl) ?_ (fun w' hw' K Q hK => ?_) ?_
  rotate_left 2
  · go_wp2_with fail; exact hK _ (Mod.refl _ _)
  rotate_left
  · rfl
  refine steady_go (a' := ?_) (by kernel_rfl) ?_ (fun w' hw' K Q hK => ?_) ?_
  rotate_left 2
  · go_wp2_with fail; exact hK _ (Mod.refl _ _)
  rotate_left
  · rfl
  refine steady_go (a' := ?_) (by kernel_rfl) ?_ (fun w' hw' K Q hK => ?_) ?_
  rotate_left 2
  · go_wp2_with fail
    refine ((calls_mod H3.out) _ hw').mono ?_
    rintro e w'' ⟨rfl, m''⟩
    go_wp2_with fail
    exact hK _ m''
  rotate_left
  · rfl
  refine steady_go (a' := ?_) (by kernel_rfl) ?_ (fun w' hw' K Q hK => ?_) ?_
  rotate_left 2
  · go_wp2_with fail; exact hK _ (Mod.refl _ _)
  rotate_left
  · rfl
  refine steady_go (a' := ?_) (by kernel_rfl) ?_ (fun w' hw' K Q hK => ?_) ?_
  rotate_left 2
  · go_wp2_with fail; exact hK _ (Mod.refl _ _)
  rotate_left
  · rfl
  refine steady_go (a' := ?_) (by kernel_rfl) ?_ (fun w' hw' K Q hK => ?_) ?_
  rotate_left 2
  · go_wp2_with fail; exact hK _ (Mod.refl _ _)
  rotate_left
  · rfl
  refine steady_go (a' := ?_) (by kernel_rfl) ?_ (fun w' hw' K Q hK => ?_) ?_
  rotate_left 2
  · go_wp2_with fail; exact hK _ (Mod.refl _ _)
  rotate_left
  · rfl
  refine steady_go (a' := ?_) (by kernel_rfl) ?_ (fun w' hw' K Q hK => ?_) ?_
  rotate_left 2
  · go_wp2_with fail; exact hK _ (Mod.refl _ _)
  rotate_left
  · rfl
  refine steady_go (a' := ?_) (by kernel_rfl) ?_ (fun w' hw' K Q hK => ?_) ?_
  rotate_left 2
  · go_wp2_with fail; exact hK _ (Mod.refl _ _)
  rotate_left
  · rfl
  refine steady_go (a' := ?_) (by kernel_rfl) ?_ (fun w' hw' K Q hK => ?_) ?_
  rotate_left 2
  · go_wp2_with fail; exact hK _ (Mod.refl _ _)
  rotate_left
  · rfl
  refine steady_go (a' := ?_) (by kernel_rfl) ?_ (fun w' hw' K Q hK => ?_) ?_
  rotate_left 2
  · go_wp2_with fail; exact hK _ (Mod.refl _ _)
  rotate_left
  · rfl
  refine steady_go (a' := ?_) (by kernel_rfl) ?_ (fun w' hw' K Q hK => ?_) ?_
  rotate_left 2
  · go_wp2_with fail
    refine ((calls_mod H3.out) _ hw').mono ?_
    rintro e w'' ⟨rfl, m''⟩
    go_wp2_with fail
    exact hK _ m''
  rotate_left
  · rfl
  refine steady_go (a' := ?_) (by kernel_rfl) ?_ (fun w' hw' K Q hK => ?_) ?_
  rotate_left 2
  · go_wp2_with fail; exact hK _ (Mod.refl _ _)
  rotate_left
  · rfl
  refine steady_go (a' := ?_) (by kernel_rfl) ?_ (fun w' hw' K Q hK => ?_) ?_
  rotate_left 2
  · go_wp2_with fail; exact hK _ (Mod.refl _ _)
  rotate_left
  · rfl
  refine steady_go (a' := ?_) (by kernel_rfl) ?_ (fun w' hw' K Q hK => ?_) ?_
  rotate_left 2
  · go_wp2_with fail; exact hK _ (Mod.refl _ _)
  rotate_left
  · rfl
  refine steady_pass (by kernel_rfl) (by kernel_rfl) ?_
  refine steady_pass (by kernel_rfl) (by kernel_rfl) ?_
  refine steady_pass (by kernel_rfl) (by kernel_rfl) ?_
  refine steady_pass (by kernel_rfl) (by kernel_rfl) ?_
  refine steady_pass (by kernel_rfl) (by kernel_rfl) ?_
  refine steady_go (a' := ?_) (by kernel_rfl) ?_ (fun w' hw' K Q hK => ?_) ?_
  rotate_left 2
  · go_wp2_with fail; exact hK _ (Mod.refl _ _)
  rotate_left
  · rfl
  refine steady_go (a' := ?_) (by kernel_rfl) ?_ (fun w' hw' K Q hK => ?_) ?_
  rotate_left 2
  · go_wp2_with fail; exact hK _ (Mod.refl _ _)
  rotate_left
  · rfl
  refine steady_go (a' := ?_) (by kernel_rfl) ?_ (fun w' hw' K Q hK => ?_) ?_
  rotate_left 2
  · go_wp2_with fail; exact hK _ (Mod.refl _ _)
  rotate_left
  · rfl
  refine steady_done ?_
  refine lates_end (fun w' hw' _ => ?_)
  simp only [List.drop_succ_cons, List.drop_nil]
  have M := Lib.hid (T.out.mod.then hw')
  clear A0 hw'
  go_wp2_with fail
  go_ret
  exact ⟨rfl, M.out.to_below⟩

set_option maxHeartbeats 2000000 in
set_option maxRecDepth 100000 in
theorem floors_2ta (x0 x1 : Int) (w : World) (hx0 : -9223372036854775808 ≤ x0 ∧ x0 ≤ 9223372036854775807) (hx1 : -9223372036854775808 ≤ x1 ∧ x1 ≤ 9223372036854775807)
    (N D n r c : Int) (e1 : Rat.makeR x0 x1 = (N, D, true)) (rt : Rat.Rt N D) (e2 : Rat.floorR N D = n) (e3 : Rat.roundR N D = r) (hn1 : -9223372036854775807 ≤ n) (hn2 : n ≤ 9223372036854775807) (e5 : Rat.cmpR n 1 N D = c) (hc : c ≤ 0)
    (hp : n < 4611686018427387904) (hq : -4611686018427387904 < n) (e8 : Rat.cmpR (n + 1) 1 N D = 1) (hD : D ≠ 1) (hr : r = n) (mN mD : Int) (e9 : Rat.addR N D 1 2 = (mN, mD, true)) (rm : Rat.Rt mN mD) (e7 : Rat.floorR mN mD = r) :
    Calls Try.prog 9 #[.agg #[.int .i64 x0, .int .i64 x1]] w fun e w' => e = .returned (.bool true) ∧ Below w.heap.size w w' := by
  have H1 := Lib.hid (fun W => make_any x0 x1 W hx0 hx1)
  have H2 := Lib.hid (fun W => floor_any N D W rt.bN rt.bD)
  have H3 := Lib.hid (fun W => round_any N D W rt.bN rt.bD)
  have H4 := Lib.hid (fun W => make_any n 1 W (by omega) (by omega))
  have H5 := Lib.hid (fun W => cmp_any n 1 N D W (by omega) (by omega) rt.bN rt.bD)
  have H9 := Lib.hid (fun W => add_any N D 1 2 W rt.bN rt.bD (by omega) (by omega))
  rw [e1] at H1
  rw [e2] at H2
  rw [e3] at H3
  rw [Rat.make_whole hn1 hn2] at H4
  rw [e5] at H5
  rw [e9] at H9
  have H6 := Lib.hid (fun W => make_any (n + 1) 1 W (by omega) (by omega))
  rw [Rat.make_whole (by omega) (by omega)] at H6
  have H8 := Lib.hid (fun W => cmp_any (n + 1) 1 N D W (by omega) (by omega) rt.bN rt.bD)
  rw [e8] at H8
  have H7 := Lib.hid (fun W => floor_any mN mD W rm.bN rm.bD)
  rw [e7] at H7
  clear e1 e2 e3 e5 e9 e8 e7 rm rt
  subst hr
  have k1 : (D != 1) = true := by simpa using hD
  have k1b : (D == 1) = false := by simpa using hD
  have k2 : (r == r) = true := by simp
  have k3 : (r != r) = false := by simp
  clear hD
  have T := Lib.hid (own1 w #[.int .i64 x0, .int .i64 x1] 40)
  go_enter Try.func9, Try.ntmps9
  go_wp2_with fail
  refine (shown_any _).mono ?_
  rintro e w39 ⟨rfl, m⟩
  have T' := Lib.hid (T.out.call m)
  clear m T 
  have T := T'
  clear T'
  obtain ⟨f0, g0, -, -⟩ := (T.out.at 0 rfl).two
  go_wp2_with fail
  refine (H1.out _).mono ?_
  rintro e w40 ⟨rfl, m⟩
  have T' := Lib.hid ((T.out.call m).alloc #[.int .i64 N, .int .i64 D] 24)
  clear m T f0 g0
  have T := T'
  clear T'
  obtain ⟨f0, g0, -, -⟩ := (T.out.at 1 rfl).two
  go_wp2_with fail
  refine (H2.out _).mono ?_
  rintro e w41 ⟨rfl, m⟩
  have T' := Lib.hid (T.out.call m)
  clear m T f0 g0
  have T := T'
  clear T'
  go_wp2_with fail
  refine (H4.out _).mono ?_
  rintro e w42 ⟨rfl, m⟩
  have T' := Lib.hid ((T.out.call m).alloc #[.int .i64 r, .int .i64 1] 24)
  clear m T 
  have T := T'
  clear T'
  obtain ⟨f0, g0, -, -⟩ := (T.out.at 2 rfl).two
  obtain ⟨f1, g1, -, -⟩ := (T.out.at 1 rfl).two
  go_wp2_with fail
  refine (H5.out _).mono ?_
  rintro e w43 ⟨rfl, m⟩
  have T' := Lib.hid (T.out.call m)
  clear m T f0 g0 f1 g1
  have T := T'
  clear T'
  go_wp2_with fail
  refine (H6.out _).mono ?_
  rintro e w44 ⟨rfl, m⟩
  have T' := Lib.hid ((T.out.call m).alloc #[.int .i64 (r + 1), .int .i64 1] 24)
  clear m T 
  have T := T'
  clear T'
  obtain ⟨f0, g0, -, -⟩ := (T.out.at 3 rfl).two
  obtain ⟨f1, g1, -, -⟩ := (T.out.at 1 rfl).two
  go_wp2_with fail
  refine (H8.out _).mono ?_
  rintro e w45 ⟨rfl, m⟩
  have T' := Lib.hid (T.out.call m)
  clear m T f0 g0 f1 g1
  have T := T'
  clear T'
  obtain ⟨f0, g0, -, -⟩ := (T.out.at 1 rfl).two
  go_wp2_with fail
  refine (H9.out _).mono ?_
  rintro e w46 ⟨rfl, m⟩
  have T' := Lib.hid ((T.out.call m).alloc #[.int .i64 mN, .int .i64 mD] 24)
  clear m T f0 g0
  have T := T'
  clear T'
  go_wp2_with fail
  have A0 := (T.out.at 1 rfl).every
  have B0 := (T.out.at 4 rfl).every
  refine wp_region_mask 8 [true, true, true, true, true, true, true, true] [] (by kernel_rfl) (by kernel_rfl) (by simp) ?_
  simp only [pickM]
  refine steady_go (a' := ?_) (by kernel_rfl) ?_ (fun w' hw' K Q hK => ?_) ?_
  rotate_left 2
  · go_wp2_with fail; exact hK _ (Mod.refl _ _)
  rotate_left
  · rfl
  refine steady_go (a' := ?_) (by kernel_rfl) ?_ (fun w' hw' K Q hK => ?_) ?_
  rotate_left 2
  · go_wp2_with fail; exact hK _ (Mod.refl _ _)
  rotate_left
  · rfl
  refine steady_go (a' := ?_) (by kernel_rfl) ?_ (fun w' hw' K Q hK => ?_) ?_
  rotate_left 2
  · go_wp2_with fail; exact hK _ (Mod.refl _ _)
  rotate_left
  · rfl
  refine steady_go (a' := ?_) (by kernel_rfl) ?_ (fun w' hw' K Q hK => ?_) ?_
  rotate_left 2
  · go_wp2_with fail
    refine ((calls_mod H7.out) _ hw').mono ?_
    rintro e w'' ⟨rfl, m''⟩
    go_wp2_with fail
    exact hK _ m''
  rotate_left
  · rfl
  refine steady_go (a' := ?_) (by kernel_rfl) ?_ (fun w' hw' K Q hK => ?_) ?_
  rotate_left 2
  · go_wp2_with fail; exact hK _ (Mod.refl _ _)
  rotate_left
  · rfl
  refine steady_go (a' := ?_) (by kernel_rfl) ?_ (fun w' hw' K Q hK => ?_) ?_
  rotate_left 2
  · go_wp2_with fail
    refine ((calls_mod H3.out) _ hw').mono ?_
    rintro e w'' ⟨rfl, m''⟩
    go_wp2_with fail
    exact hK _ m''
  rotate_left
  · rfl
  refine steady_go (a' := ?_) (by kernel_rfl) ?_ (fun w' hw' K Q hK => ?_) ?_
  rotate_left 2
  · go_wp2_with fail; exact hK _ (Mod.refl _ _)
  rotate_left
  · rfl
  refine steady_go (a' := ?_) (by kernel_rfl) ?_ (fun w' hw' K Q hK => ?_) ?_
  rotate_left 2
  · go_wp2_with fail; exact hK _ (Mod.refl _ _)
  rotate_left
  · rfl
  refine steady_done ?_
  refine lates_end (fun w' hw' _ => ?_)
  simp only [List.drop_succ_cons, List.drop_nil]
  have T' := Lib.hid (T.out.call hw')
  clear A0 B0 hw' T
  have T := T'
  clear T'
  go_wp2_with fail
  have A0 := (T.out.at 1 rfl).every
  refine wp_region_mask 33 [true, true, true, true, true, true, true, true, true, true, true, true, true, true, true, true, true, true, true, true, true, true, true, true, true, true, true, true, true, true, true, true, true] [] (by kernel_rfl) (by kernel_rfl) (by simp) ?_
  simp only [pickM]
  refine steady_go (a' := ?_) (by kernel_rfl) ?_ (fun w' hw' K Q hK => ?_) ?_
  rotate_left 2
  · go_wp2_with fail; exact hK _ (Mod.refl _ _)
  rotate_left
  · rfl
  refine steady_go (a' := ?_) (by kernel_rfl) ?_ (fun w' hw' K Q hK => ?_) ?_
  rotate_left 2
  · go_wp2_with fail; exact hK _ (Mod.refl _ _)
  rotate_left
  · rfl
  refine steady_go (a' := ?_) (by kernel_rfl) ?_ (fun w' hw' K Q hK => ?_) ?_
  rotate_left 2
  · go_wp2_with fail; exact hK _ (Mod.refl _ _)
  rotate_left
  · rfl
  refine steady_go (a' := ?_) (by kernel_rfl) ?_ (fun w' hw' K Q hK => ?_) ?_
  rotate_left 2
  · go_wp2_with fail; exact hK _ (Mod.refl _ _)
  rotate_left
  · rfl
  refine steady_go (a' := ?_) (by kernel_rfl) ?_ (fun w' hw' K Q hK => ?_) ?_
  rotate_left 2
  · go_wp2_with fail; exact hK _ (Mod.refl _ _)
  rotate_left
  · rfl
  refine steady_go (a' := ?_) (by kernel_rfl) ?_ (fun w' hw' K Q hK => ?_) ?_
  rotate_left 2
  · go_wp2_with fail; exact hK _ (Mod.refl _ _)
  rotate_left
  · rfl
  refine steady_pass (by kernel_rfl) (by kernel_rfl) ?_
  refine steady_pass (by kernel_rfl) (by kernel_rfl) ?_
  refine steady_pass (by kernel_rfl) (by kernel_rfl) ?_
  refine steady_pass (by kernel_rfl) (by kernel_rfl) ?_
  refine steady_pass (by kernel_rfl) (by kernel_rfl) ?_
  refine steady_pass (by kernel_rfl) (by kernel_rfl) ?_
  refine steady_pass (by kernel_rfl) (by kernel_rfl) ?_
  refine steady_pass (by kernel_rfl) (by kernel_rfl) ?_
  refine steady_pass (by kernel_rfl) (by kernel_rfl) ?_
  refine steady_pass (by kernel_rfl) (by kernel_rfl) ?_
  refine steady_pass (by kernel_rfl) (by kernel_rfl) ?_
  refine steady_go (a' := ?_) (by kernel_rfl) ?_ (fun w' hw' K Q hK => ?_) ?_
  rotate_left 2
  · go_wp2_with fail; exact hK _ (Mod.refl _ _)
  rotate_left
  · rfl
  refine steady_go (a' := ?_) (by kernel_rfl) ?_ (fun w' hw' K Q hK => ?_) ?_
  rotate_left 2
  · go_wp2_with fail; exact hK _ (Mod.refl _ _)
  rotate_left
  · rfl
  refine steady_go (a' := ?_) (by kernel_rfl) ?_ (fun w' hw' K Q hK => ?_) ?_
  rotate_left 2
  · go_wp2_with fail; exact hK _ (Mod.refl _ _)
  rotate_left
  · rfl
  refine steady_go (a' := ?_) (by kernel_rfl) ?_ (fun w' hw' K Q hK => ?_) ?_
  rotate_left 2
  · go_wp2_with fail; exact hK _ (Mod.refl _ _)
  rotate_left
  · rfl
  refine steady_go (a' := ?_) (by kernel_rfl) ?_ (fun w' hw' K Q hK => ?_) ?_
  rotate_left 2
  · go_wp2_with fail
    refine ((calls_mod H3.out) _ hw').mono ?_
    rintro e w'' ⟨rfl, m''⟩
    go_wp2_with fail
    exact hK _ m''
  rotate_left
  · rfl
  refine steady_go (a' := ?_) (by kernel_rfl) ?_ (fun w' hw' K Q hK => ?_) ?_
  rotate_left 2
  · go_wp2_with fail; exact hK _ (Mod.refl _ _)
  rotate_left
  · rfl
  refine steady_go (a' := ?_) (by kernel_rfl) ?_ (fun w' hw' K Q hK => ?_) ?_
  rotate_left 2
  · go_wp2_with fail; exact hK _ (Mod.refl _ _)
  rotate_left
  · rfl
  refine steady_go (a' := ?_) (by kernel_rfl) ?_ (fun w' hw' K Q hK => ?_) ?_
  rotate_left 2
  · go_wp2_with fail; exact hK _ (Mod.refl _ _)
  rotate_left
  · rfl
  refine steady_pass (by kernel_rfl) (by kernel_rfl) ?_
  refine steady_pass (by kernel_rfl) (by kernel_rfl) ?_
  refine steady_pass (by kernel_rfl) (by kernel_rfl) ?_
  refine steady_pass (by kernel_rfl) (by kernel_rfl) ?_
  refine steady_pass (by kernel_rfl) (by kernel_rfl) ?_
  refine steady_go (a' := ?_) (by kernel_rfl) ?_ (fun w' hw' K Q hK => ?_) ?_
  rotate_left 2
  · go_wp2_with fail; exact hK _ (Mod.refl _ _)
  rotate_left
  · rfl
  refine steady_go (a' := ?_) (by kernel_rfl) ?_ (fun w' hw' K Q hK => ?_) ?_
  rotate_left 2
  · go_wp2_with fail; exact hK _ (Mod.refl _ _)
  rotate_left
  · rfl
  refine steady_go (a' := ?_) (by kernel_rfl) ?_ (fun w' hw' K Q hK => ?_) ?_
  rotate_left 2
  · go_wp2_with fail; exact hK _ (Mod.refl _ _)
  rotate_left
  · rfl
  refine steady_done ?_
  refine lates_end (fun w' hw' _ => ?_)
  simp only [List.drop_succ_cons, List.drop_nil]
  have M := Lib.hid (T.out.mod.then hw')
  clear A0 hw'
  go_wp2_with fail
  go_ret
  exact ⟨rfl, M.out.to_below⟩

set_option maxHeartbeats 2000000 in
set_option maxRecDepth 100000 in
theorem floors_2tb (x0 x1 : Int) (w : World) (hx0 : -9223372036854775808 ≤ x0 ∧ x0 ≤ 9223372036854775807) (hx1 : -9223372036854775808 ≤ x1 ∧ x1 ≤ 9223372036854775807)
    (N D n r c : Int) (e1 : Rat.makeR x0 x1 = (N, D, true)) (rt : Rat.Rt N D) (e2 : Rat.floorR N D = n) (e3 : Rat.roundR N D = r) (hn1 : -9223372036854775807 ≤ n) (hn2 : n ≤ 9223372036854775807) (e5 : Rat.cmpR n 1 N D = c) (hc : c ≤ 0)
    (hp : n < 4611686018427387904) (hq : -4611686018427387904 < n) (e8 : Rat.cmpR (n + 1) 1 N D = 1) (hD : D ≠ 1) (hr : r = n + 1) (hr2 : n < 9223372036854775807) (mN mD : Int) (e9 : Rat.addR N D 1 2 = (mN, mD, true)) (rm : Rat.Rt mN mD) (e7 : Rat.floorR mN mD = r) :
    Calls Try.prog 9 #[.agg #[.int .i64 x0, .int .i64 x1]] w fun e w' => e = .returned (.bool true) ∧ Below w.heap.size w w' := by
  have H1 := Lib.hid (fun W => make_any x0 x1 W hx0 hx1)
  have H2 := Lib.hid (fun W => floor_any N D W rt.bN rt.bD)
  have H3 := Lib.hid (fun W => round_any N D W rt.bN rt.bD)
  have H4 := Lib.hid (fun W => make_any n 1 W (by omega) (by omega))
  have H5 := Lib.hid (fun W => cmp_any n 1 N D W (by omega) (by omega) rt.bN rt.bD)
  have H9 := Lib.hid (fun W => add_any N D 1 2 W rt.bN rt.bD (by omega) (by omega))
  rw [e1] at H1
  rw [e2] at H2
  rw [e3] at H3
  rw [Rat.make_whole hn1 hn2] at H4
  rw [e5] at H5
  rw [e9] at H9
  have H6 := Lib.hid (fun W => make_any (n + 1) 1 W (by omega) (by omega))
  rw [Rat.make_whole (by omega) (by omega)] at H6
  have H8 := Lib.hid (fun W => cmp_any (n + 1) 1 N D W (by omega) (by omega) rt.bN rt.bD)
  rw [e8] at H8
  have H7 := Lib.hid (fun W => floor_any mN mD W rm.bN rm.bD)
  rw [e7] at H7
  clear e1 e2 e3 e5 e9 e8 e7 rm rt
  subst hr
  have k1 : (D != 1) = true := by simpa using hD
  have k1b : (D == 1) = false := by simpa using hD
  have k2 : (n + 1 == n) = false := by simp; omega
  have k3 : (n + 1 != n + 1) = false := by simp
  have k4 : (n + 1 == n + 1) = true := by simp
  have k5 : IntKind.i64.wrap (n + 1) = n + 1 := IntWalk.i64_in _ (by omega)
  clear hD
  have T := Lib.hid (own1 w #[.int .i64 x0, .int .i64 x1] 40)
  go_enter Try.func9, Try.ntmps9
  go_wp2_with fail
  refine (shown_any _).mono ?_
  rintro e w47 ⟨rfl, m⟩
  have T' := Lib.hid (T.out.call m)
  clear m T 
  have T := T'
  clear T'
  obtain ⟨f0, g0, -, -⟩ := (T.out.at 0 rfl).two
  go_wp2_with fail
  refine (H1.out _).mono ?_
  rintro e w48 ⟨rfl, m⟩
  have T' := Lib.hid ((T.out.call m).alloc #[.int .i64 N, .int .i64 D] 24)
  clear m T f0 g0
  have T := T'
  clear T'
  obtain ⟨f0, g0, -, -⟩ := (T.out.at 1 rfl).two
  go_wp2_with fail
  refine (H2.out _).mono ?_
  rintro e w49 ⟨rfl, m⟩
  have T' := Lib.hid (T.out.call m)
  clear m T f0 g0
  have T := T'
  clear T'
  go_wp2_with fail
  refine (H4.out _).mono ?_
  rintro e w50 ⟨rfl, m⟩
  have T' := Lib.hid ((T.out.call m).alloc #[.int .i64 n, .int .i64 1] 24)
  clear m T 
  have T := T'
  clear T'
  obtain ⟨f0, g0, -, -⟩ := (T.out.at 2 rfl).two
  obtain ⟨f1, g1, -, -⟩ := (T.out.at 1 rfl).two
  go_wp2_with fail
  refine (H5.out _).mono ?_
  rintro e w51 ⟨rfl, m⟩
  have T' := Lib.hid (T.out.call m)
  clear m T f0 g0 f1 g1
  have T := T'
  clear T'
  go_wp2_with fail
  refine (H6.out _).mono ?_
  rintro e w52 ⟨rfl, m⟩
  have T' := Lib.hid ((T.out.call m).alloc #[.int .i64 (n + 1), .int .i64 1] 24)
  clear m T 
  have T := T'
  clear T'
  obtain ⟨f0, g0, -, -⟩ := (T.out.at 3 rfl).two
  obtain ⟨f1, g1, -, -⟩ := (T.out.at 1 rfl).two
  go_wp2_with fail
  refine (H8.out _).mono ?_
  rintro e w53 ⟨rfl, m⟩
  have T' := Lib.hid (T.out.call m)
  clear m T f0 g0 f1 g1
  have T := T'
  clear T'
  obtain ⟨f0, g0, -, -⟩ := (T.out.at 1 rfl).two
  go_wp2_with fail
  refine (H9.out _).mono ?_
  rintro e w54 ⟨rfl, m⟩
  have T' := Lib.hid ((T.out.call m).alloc #[.int .i64 mN, .int .i64 mD] 24)
  clear m T f0 g0
  have T := T'
  clear T'
  go_wp2_with fail
  have A0 := (T.out.at 1 rfl).every
  have B0 := (T.out.at 4 rfl).every
  refine wp_region_mask 8 [true, true, true, true, true, true, true, true] [] (by kernel_rfl) (by kernel_rfl) (by simp) ?_
  simp only [pickM]
  refine steady_go (a' := ?_) (by kernel_rfl) ?_ (fun w' hw' K Q hK => ?_) ?_
  rotate_left 2
  · go_wp2_with fail; exact hK _ (Mod.refl _ _)
  rotate_left
  · rfl
  refine steady_go (a' := ?_) (by kernel_rfl) ?_ (fun w' hw' K Q hK => ?_) ?_
  rotate_left 2
  · go_wp2_with fail; exact hK _ (Mod.refl _ _)
  rotate_left
  · rfl
  refine steady_go (a' := ?_) (by kernel_rfl) ?_ (fun w' hw' K Q hK => ?_) ?_
  rotate_left 2
  · go_wp2_with fail; exact hK _ (Mod.refl _ _)
  rotate_left
  · rfl
  refine steady_go (a' := ?_) (by kernel_rfl) ?_ (fun w' hw' K Q hK => ?_) ?_
  rotate_left 2
  · go_wp2_with fail
    refine ((calls_mod H7.out) _ hw').mono ?_
    rintro e w'' ⟨rfl, m''⟩
    go_wp2_with fail
    exact hK _ m''
  rotate_left
  · rfl
  refine steady_go (a' := ?_) (by kernel_rfl) ?_ (fun w' hw' K Q hK => ?_) ?_
  rotate_left 2
  · go_wp2_with fail; exact hK _ (Mod.refl _ _)
  rotate_left
  · rfl
  refine steady_go (a' := ?_) (by kernel_rfl) ?_ (fun w' hw' K Q hK => ?_) ?_
  rotate_left 2
  · go_wp2_with fail
    refine ((calls_mod H3.out) _ hw').mono ?_
    rintro e w'' ⟨rfl, m''⟩
    go_wp2_with fail
    exact hK _ m''
  rotate_left
  · rfl
  refine steady_go (a' := ?_) (by kernel_rfl) ?_ (fun w' hw' K Q hK => ?_) ?_
  rotate_left 2
  · go_wp2_with fail; exact hK _ (Mod.refl _ _)
  rotate_left
  · rfl
  refine steady_go (a' := ?_) (by kernel_rfl) ?_ (fun w' hw' K Q hK => ?_) ?_
  rotate_left 2
  · go_wp2_with fail; exact hK _ (Mod.refl _ _)
  rotate_left
  · rfl
  refine steady_done ?_
  refine lates_end (fun w' hw' _ => ?_)
  simp only [List.drop_succ_cons, List.drop_nil]
  have T' := Lib.hid (T.out.call hw')
  clear A0 B0 hw' T
  have T := T'
  clear T'
  go_wp2_with fail
  have A0 := (T.out.at 1 rfl).every
  refine wp_region_mask 33 [true, true, true, true, true, true, true, true, true, true, true, true, true, true, true, true, true, true, true, true, true, true, true, true, true, true, true, true, true, true, true, true, true] [] (by kernel_rfl) (by kernel_rfl) (by simp) ?_
  simp only [pickM]
  refine steady_go (a' := ?_) (by kernel_rfl) ?_ (fun w' hw' K Q hK => ?_) ?_
  rotate_left 2
  · go_wp2_with fail; exact hK _ (Mod.refl _ _)
  rotate_left
  · rfl
  refine steady_go (a' := ?_) (by kernel_rfl) ?_ (fun w' hw' K Q hK => ?_) ?_
  rotate_left 2
  · go_wp2_with fail; exact hK _ (Mod.refl _ _)
  rotate_left
  · rfl
  refine steady_go (a' := ?_) (by kernel_rfl) ?_ (fun w' hw' K Q hK => ?_) ?_
  rotate_left 2
  · go_wp2_with fail; exact hK _ (Mod.refl _ _)
  rotate_left
  · rfl
  refine steady_go (a' := ?_) (by kernel_rfl) ?_ (fun w' hw' K Q hK => ?_) ?_
  rotate_left 2
  · go_wp2_with fail; exact hK _ (Mod.refl _ _)
  rotate_left
  · rfl
  refine steady_go (a' := ?_) (by kernel_rfl) ?_ (fun w' hw' K Q hK => ?_) ?_
  rotate_left 2
  · go_wp2_with fail; exact hK _ (Mod.refl _ _)
  rotate_left
  · rfl
  refine steady_go (a' := ?_) (by kernel_rfl) ?_ (fun w' hw' K Q hK => ?_) ?_
  rotate_left 2
  · go_wp2_with fail; exact hK _ (Mod.refl _ _)
  rotate_left
  · rfl
  refine steady_pass (by kernel_rfl) (by kernel_rfl) ?_
  refine steady_pass (by kernel_rfl) (by kernel_rfl) ?_
  refine steady_pass (by kernel_rfl) (by kernel_rfl) ?_
  refine steady_pass (by kernel_rfl) (by kernel_rfl) ?_
  refine steady_pass (by kernel_rfl) (by kernel_rfl) ?_
  refine steady_pass (by kernel_rfl) (by kernel_rfl) ?_
  refine steady_pass (by kernel_rfl) (by kernel_rfl) ?_
  refine steady_pass (by kernel_rfl) (by kernel_rfl) ?_
  refine steady_pass (by kernel_rfl) (by kernel_rfl) ?_
  refine steady_pass (by kernel_rfl) (by kernel_rfl) ?_
  refine steady_pass (by kernel_rfl) (by kernel_rfl) ?_
  refine steady_go (a' := ?_) (by kernel_rfl) ?_ (fun w' hw' K Q hK => ?_) ?_
  rotate_left 2
  · go_wp2_with fail; exact hK _ (Mod.refl _ _)
  rotate_left
  · rfl
  refine steady_go (a' := ?_) (by kernel_rfl) ?_ (fun w' hw' K Q hK => ?_) ?_
  rotate_left 2
  · go_wp2_with fail; exact hK _ (Mod.refl _ _)
  rotate_left
  · rfl
  refine steady_go (a' := ?_) (by kernel_rfl) ?_ (fun w' hw' K Q hK => ?_) ?_
  rotate_left 2
  · go_wp2_with fail; exact hK _ (Mod.refl _ _)
  rotate_left
  · rfl
  refine steady_go (a' := ?_) (by kernel_rfl) ?_ (fun w' hw' K Q hK => ?_) ?_
  rotate_left 2
  · go_wp2_with fail; exact hK _ (Mod.refl _ _)
  rotate_left
  · rfl
  refine steady_go (a' := ?_) (by kernel_rfl) ?_ (fun w' hw' K Q hK => ?_) ?_
  rotate_left 2
  · go_wp2_with fail
    refine ((calls_mod H3.out) _ hw').mono ?_
    rintro e w'' ⟨rfl, m''⟩
    go_wp2_with fail
    exact hK _ m''
  rotate_left
  · rfl
  refine steady_go (a' := ?_) (by kernel_rfl) ?_ (fun w' hw' K Q hK => ?_) ?_
  rotate_left 2
  · go_wp2_with fail; exact hK _ (Mod.refl _ _)
  rotate_left
  · rfl
  refine steady_go (a' := ?_) (by kernel_rfl) ?_ (fun w' hw' K Q hK => ?_) ?_
  rotate_left 2
  · go_wp2_with fail; exact hK _ (Mod.refl _ _)
  rotate_left
  · rfl
  refine steady_go (a' := ?_) (by kernel_rfl) ?_ (fun w' hw' K Q hK => ?_) ?_
  rotate_left 2
  · go_wp2_with fail; exact hK _ (Mod.refl _ _)
  rotate_left
  · rfl
  refine steady_go (a' := ?_) (by kernel_rfl) ?_ (fun w' hw' K Q hK => ?_) ?_
  rotate_left 2
  · go_wp2_with fail; exact hK _ (Mod.refl _ _)
  rotate_left
  · rfl
  refine steady_go (a' := ?_) (by kernel_rfl) ?_ (fun w' hw' K Q hK => ?_) ?_
  rotate_left 2
  · go_wp2_with fail
    refine ((calls_mod H3.out) _ hw').mono ?_
    rintro e w'' ⟨rfl, m''⟩
    go_wp2_with fail
    exact hK _ m''
  rotate_left
  · rfl
  refine steady_go (a' := ?_) (by kernel_rfl) ?_ (fun w' hw' K Q hK => ?_) ?_
  rotate_left 2
  · go_wp2_with fail; exact hK _ (Mod.refl _ _)
  rotate_left
  · rfl
  refine steady_go (a' := ?_) (by kernel_rfl) ?_ (fun w' hw' K Q hK => ?_) ?_
  rotate_left 2
  · go_wp2_with fail; exact hK _ (Mod.refl _ _)
  rotate_left
  · rfl
  refine steady_go (a' := ?_) (by kernel_rfl) ?_ (fun w' hw' K Q hK => ?_) ?_
  rotate_left 2
  · go_wp2_with fail; exact hK _ (Mod.refl _ _)
  rotate_left
  · rfl
  refine steady_go (a' := ?_) (by kernel_rfl) ?_ (fun w' hw' K Q hK => ?_) ?_
  rotate_left 2
  · go_wp2_with fail; exact hK _ (Mod.refl _ _)
  rotate_left
  · rfl
  refine steady_go (a' := ?_) (by kernel_rfl) ?_ (fun w' hw' K Q hK => ?_) ?_
  rotate_left 2
  · go_wp2_with fail; exact hK _ (Mod.refl _ _)
  rotate_left
  · rfl
  refine steady_go (a' := ?_) (by kernel_rfl) ?_ (fun w' hw' K Q hK => ?_) ?_
  rotate_left 2
  · go_wp2_with fail; exact hK _ (Mod.refl _ _)
  rotate_left
  · rfl
  refine steady_done ?_
  refine lates_end (fun w' hw' _ => ?_)
  simp only [List.drop_succ_cons, List.drop_nil]
  have M := Lib.hid (T.out.mod.then hw')
  clear A0 hw'
  go_wp2_with fail
  go_ret
  exact ⟨rfl, M.out.to_below⟩

set_option maxHeartbeats 2000000 in
set_option maxRecDepth 100000 in
theorem floors_2tc (x0 x1 : Int) (w : World) (hx0 : -9223372036854775808 ≤ x0 ∧ x0 ≤ 9223372036854775807) (hx1 : -9223372036854775808 ≤ x1 ∧ x1 ≤ 9223372036854775807)
    (N D n r c : Int) (e1 : Rat.makeR x0 x1 = (N, D, true)) (rt : Rat.Rt N D) (e2 : Rat.floorR N D = n) (e3 : Rat.roundR N D = r) (hn1 : -9223372036854775807 ≤ n) (hn2 : n ≤ 9223372036854775807) (e5 : Rat.cmpR n 1 N D = c) (hc : c ≤ 0)
    (hp : n < 4611686018427387904) (hq : -4611686018427387904 < n) (e8 : Rat.cmpR (n + 1) 1 N D = 1) (hD : D = 1) (hr : r = n) (hN : N = n) (mN mD : Int) (e9 : Rat.addR N D 1 2 = (mN, mD, true)) (rm : Rat.Rt mN mD) (e7 : Rat.floorR mN mD = r) :
    Calls Try.prog 9 #[.agg #[.int .i64 x0, .int .i64 x1]] w fun e w' => e = .returned (.bool true) ∧ Below w.heap.size w w' := by
  have H1 := Lib.hid (fun W => make_any x0 x1 W hx0 hx1)
  have H2 := Lib.hid (fun W => floor_any N D W rt.bN rt.bD)
  have H3 := Lib.hid (fun W => round_any N D W rt.bN rt.bD)
  have H4 := Lib.hid (fun W => make_any n 1 W (by omega) (by omega))
  have H5 := Lib.hid (fun W => cmp_any n 1 N D W (by omega) (by omega) rt.bN rt.bD)
  have H9 := Lib.hid (fun W => add_any N D 1 2 W rt.bN rt.bD (by omega) (by omega))
  rw [e1] at H1
  rw [e2] at H2
  rw [e3] at H3
  rw [Rat.make_whole hn1 hn2] at H4
  rw [e5] at H5
  rw [e9] at H9
  have H6 := Lib.hid (fun W => make_any (n + 1) 1 W (by omega) (by omega))
  rw [Rat.make_whole (by omega) (by omega)] at H6
  have H8 := Lib.hid (fun W => cmp_any (n + 1) 1 N D W (by omega) (by omega) rt.bN rt.bD)
  rw [e8] at H8
  have H7 := Lib.hid (fun W => floor_any mN mD W rm.bN rm.bD)
  rw [e7] at H7
  clear e1 e2 e3 e5 e9 e8 e7 rm rt
  subst hr hN hD
  have k2 : (N == N) = true := by simp
  have k3 : (N != N) = false := by simp
  have T := Lib.hid (own1 w #[.int .i64 x0, .int .i64 x1] 40)
  go_enter Try.func9, Try.ntmps9
  go_wp2_with fail
  refine (shown_any _).mono ?_
  rintro e w55 ⟨rfl, m⟩
  have T' := Lib.hid (T.out.call m)
  clear m T 
  have T := T'
  clear T'
  obtain ⟨f0, g0, -, -⟩ := (T.out.at 0 rfl).two
  go_wp2_with fail
  refine (H1.out _).mono ?_
  rintro e w56 ⟨rfl, m⟩
  have T' := Lib.hid ((T.out.call m).alloc #[.int .i64 N, .int .i64 1] 24)
  clear m T f0 g0
  have T := T'
  clear T'
  obtain ⟨f0, g0, -, -⟩ := (T.out.at 1 rfl).two
  go_wp2_with fail
  refine (H2.out _).mono ?_
  rintro e w57 ⟨rfl, m⟩
  have T' := Lib.hid (T.out.call m)
  clear m T f0 g0
  have T := T'
  clear T'
  go_wp2_with fail
  refine (H4.out _).mono ?_
  rintro e w58 ⟨rfl, m⟩
  have T' := Lib.hid ((T.out.call m).alloc #[.int .i64 N, .int .i64 1] 24)
  clear m T 
  have T := T'
  clear T'
  obtain ⟨f0, g0, -, -⟩ := (T.out.at 2 rfl).two
  obtain ⟨f1, g1, -, -⟩ := (T.out.at 1 rfl).two
  go_wp2_with fail
  refine (H5.out _).mono ?_
  rintro e w59 ⟨rfl, m⟩
  have T' := Lib.hid (T.out.call m)
  clear m T f0 g0 f1 g1
  have T := T'
  clear T'
  go_wp2_with fail
  refine (H6.out _).mono ?_
  rintro e w60 ⟨rfl, m⟩
  have T' := Lib.hid ((T.out.call m).alloc #[.int .i64 (N + 1), .int .i64 1] 24)
  clear m T 
  have T := T'
  clear T'
  obtain ⟨f0, g0, -, -⟩ := (T.out.at 3 rfl).two
  obtain ⟨f1, g1, -, -⟩ := (T.out.at 1 rfl).two
  go_wp2_with fail
  refine (H8.out _).mono ?_
  rintro e w61 ⟨rfl, m⟩
  have T' := Lib.hid (T.out.call m)
  clear m T f0 g0 f1 g1
  have T := T'
  clear T'
  obtain ⟨f0, g0, -, -⟩ := (T.out.at 1 rfl).two
  go_wp2_with fail
  refine (H9.out _).mono ?_
  rintro e w62 ⟨rfl, m⟩
  have T' := Lib.hid ((T.out.call m).alloc #[.int .i64 mN, .int .i64 mD] 24)
  clear m T f0 g0
  have T := T'
  clear T'
  go_wp2_with fail
  have A0 := (T.out.at 1 rfl).every
  have B0 := (T.out.at 4 rfl).every
  refine wp_region_mask 8 [true, true, true, true, true, true, true, true] [] (by kernel_rfl) (by kernel_rfl) (by simp) ?_
  simp only [pickM]
  refine steady_go (a' := ?_) (by kernel_rfl) ?_ (fun w' hw' K Q hK => ?_) ?_
  rotate_left 2
  · go_wp2_with fail; exact hK _ (Mod.refl _ _)
  rotate_left
  · rfl
  refine steady_go (a' := ?_) (by kernel_rfl) ?_ (fun w' hw' K Q hK => ?_) ?_
  rotate_left 2
  · go_wp2_with fail; exact hK _ (Mod.refl _ _)
  rotate_left
  · rfl
  refine steady_go (a' := ?_) (by kernel_rfl) ?_ (fun w' hw' K Q hK => ?_) ?_
  rotate_left 2
  · go_wp2_with fail; exact hK _ (Mod.refl _ _)
  rotate_left
  · rfl
  refine steady_go (a' := ?_) (by kernel_rfl) ?_ (fun w' hw' K Q hK => ?_) ?_
  rotate_left 2
  · go_wp2_with fail
    refine ((calls_mod H7.out) _ hw').mono ?_
    rintro e w'' ⟨rfl, m''⟩
    go_wp2_with fail
    exact hK _ m''
  rotate_left
  · rfl
  refine steady_go (a' := ?_) (by kernel_rfl) ?_ (fun w' hw' K Q hK => ?_) ?_
  rotate_left 2
  · go_wp2_with fail; exact hK _ (Mod.refl _ _)
  rotate_left
  · rfl
  refine steady_go (a' := ?_) (by kernel_rfl) ?_ (fun w' hw' K Q hK => ?_) ?_
  rotate_left 2
  · go_wp2_with fail
    refine ((calls_mod H3.out) _ hw').mono ?_
    rintro e w'' ⟨rfl, m''⟩
    go_wp2_with fail
    exact hK _ m''
  rotate_left
  · rfl
  refine steady_go (a' := ?_) (by kernel_rfl) ?_ (fun w' hw' K Q hK => ?_) ?_
  rotate_left 2
  · go_wp2_with fail; exact hK _ (Mod.refl _ _)
  rotate_left
  · rfl
  refine steady_go (a' := ?_) (by kernel_rfl) ?_ (fun w' hw' K Q hK => ?_) ?_
  rotate_left 2
  · go_wp2_with fail; exact hK _ (Mod.refl _ _)
  rotate_left
  · rfl
  refine steady_done ?_
  refine lates_end (fun w' hw' _ => ?_)
  simp only [List.drop_succ_cons, List.drop_nil]
  have T' := Lib.hid (T.out.call hw')
  clear A0 B0 hw' T
  have T := T'
  clear T'
  go_wp2_with fail
  have A0 := (T.out.at 1 rfl).every
  refine wp_region_mask 33 [true, true, true, true, true, true, true, true, true, true, true, true, true, true, true, true, true, true, true, true, true, true, true, true, true, true, true, true, true, true, true, true, true] [] (by kernel_rfl) (by kernel_rfl) (by simp) ?_
  simp only [pickM]
  refine steady_go (a' := ?_) (by kernel_rfl) ?_ (fun w' hw' K Q hK => ?_) ?_
  rotate_left 2
  · go_wp2_with fail; exact hK _ (Mod.refl _ _)
  rotate_left
  · rfl
  refine steady_go (a' := ?_) (by kernel_rfl) ?_ (fun w' hw' K Q hK => ?_) ?_
  rotate_left 2
  · go_wp2_with fail; exact hK _ (Mod.refl _ _)
  rotate_left
  · rfl
  refine steady_go (a' := ?_) (by kernel_rfl) ?_ (fun w' hw' K Q hK => ?_) ?_
  rotate_left 2
  · go_wp2_with fail; exact hK _ (Mod.refl _ _)
  rotate_left
  · rfl
  refine steady_go (a' := ?_) (by kernel_rfl) ?_ (fun w' hw' K Q hK => ?_) ?_
  rotate_left 2
  · go_wp2_with fail; exact hK _ (Mod.refl _ _)
  rotate_left
  · rfl
  refine steady_go (a' := ?_) (by kernel_rfl) ?_ (fun w' hw' K Q hK => ?_) ?_
  rotate_left 2
  · go_wp2_with fail; exact hK _ (Mod.refl _ _)
  rotate_left
  · rfl
  refine steady_go (a' := ?_) (by kernel_rfl) ?_ (fun w' hw' K Q hK => ?_) ?_
  rotate_left 2
  · go_wp2_with fail; exact hK _ (Mod.refl _ _)
  rotate_left
  · rfl
  refine steady_go (a' := ?_) (by kernel_rfl) ?_ (fun w' hw' K Q hK => ?_) ?_
  rotate_left 2
  · go_wp2_with fail; exact hK _ (Mod.refl _ _)
  rotate_left
  · rfl
  refine steady_go (a' := ?_) (by kernel_rfl) ?_ (fun w' hw' K Q hK => ?_) ?_
  rotate_left 2
  · go_wp2_with fail; exact hK _ (Mod.refl _ _)
  rotate_left
  · rfl
  refine steady_go (a' := ?_) (by kernel_rfl) ?_ (fun w' hw' K Q hK => ?_) ?_
  rotate_left 2
  · go_wp2_with fail; exact hK _ (Mod.refl _ _)
  rotate_left
  · rfl
  refine steady_go (a' := ?_) (by kernel_rfl) ?_ (fun w' hw' K Q hK => ?_) ?_
  rotate_left 2
  · go_wp2_with fail; exact hK _ (Mod.refl _ _)
  rotate_left
  · rfl
  refine steady_go (a' := ?_) (by kernel_rfl) ?_ (fun w' hw' K Q hK => ?_) ?_
  rotate_left 2
  · go_wp2_with fail; exact hK _ (Mod.refl _ _)
  rotate_left
  · rfl
  refine steady_go (a' := ?_) (by kernel_rfl) ?_ (fun w' hw' K Q hK => ?_) ?_
  rotate_left 2
  · go_wp2_with fail; exact hK _ (Mod.refl _ _)
  rotate_left
  · rfl
  refine steady_go (a' := ?_) (by kernel_rfl) ?_ (fun w' hw' K Q hK => ?_) ?_
  rotate_left 2
  · go_wp2_with fail
    refine ((calls_mod H3.out) _ hw').mono ?_
    rintro e w'' ⟨rfl, m''⟩
    go_wp2_with fail
    exact hK _ m''
  rotate_left
  · rfl
  refine steady_go (a' := ?_) (by kernel_rfl) ?_ (fun w' hw' K Q hK => ?_) ?_
  rotate_left 2
  · go_wp2_with fail; exact hK _ (Mod.refl _ _)
  rotate_left
  · rfl
  refine steady_go (a' := ?_) (by kernel_rfl) ?_ (fun w' hw' K Q hK => ?_) ?_
  rotate_left 2
  · go_wp2_with fail; exact hK _ (Mod.refl _ _)
  rotate_left
  · rfl
  refine steady_go (a' := ?_) (by kernel_rfl) ?_ (fun w' hw' K Q hK => ?_) ?_
  rotate_left 2
  · go_wp2_with fail; exact hK _ (Mod.refl _ _)
  rotate_left
  · rfl
  refine steady_go (a' := ?_) (by kernel_rfl) ?_ (fun w' hw' K Q hK => ?_) ?_
  rotate_left 2
  · go_wp2_with fail; exact hK _ (Mod.refl _ _)
  rotate_left
  · rfl
  refine steady_go (a' := ?_) (by kernel_rfl) ?_ (fun w' hw' K Q hK => ?_) ?_
  rotate_left 2
  · go_wp2_with fail; exact hK _ (Mod.refl _ _)
  rotate_left
  · rfl
  refine steady_go (a' := ?_) (by kernel_rfl) ?_ (fun w' hw' K Q hK => ?_) ?_
  rotate_left 2
  · go_wp2_with fail; exact hK _ (Mod.refl _ _)
  rotate_left
  · rfl
  refine steady_go (a' := ?_) (by kernel_rfl) ?_ (fun w' hw' K Q hK => ?_) ?_
  rotate_left 2
  · go_wp2_with fail; exact hK _ (Mod.refl _ _)
  rotate_left
  · rfl
  refine steady_go (a' := ?_) (by kernel_rfl) ?_ (fun w' hw' K Q hK => ?_) ?_
  rotate_left 2
  · go_wp2_with fail; exact hK _ (Mod.refl _ _)
  rotate_left
  · rfl
  refine steady_go (a' := ?_) (by kernel_rfl) ?_ (fun w' hw' K Q hK => ?_) ?_
  rotate_left 2
  · go_wp2_with fail
    refine ((calls_mod H3.out) _ hw').mono ?_
    rintro e w'' ⟨rfl, m''⟩
    go_wp2_with fail
    exact hK _ m''
  rotate_left
  · rfl
  refine steady_go (a' := ?_) (by kernel_rfl) ?_ (fun w' hw' K Q hK => ?_) ?_
  rotate_left 2
  · go_wp2_with fail; exact hK _ (Mod.refl _ _)
  rotate_left
  · rfl
  refine steady_go (a' := ?_) (by kernel_rfl) ?_ (fun w' hw' K Q hK => ?_) ?_
  rotate_left 2
  · go_wp2_with fail; exact hK _ (Mod.refl _ _)
  rotate_left
  · rfl
  refine steady_go (a' := ?_) (by kernel_rfl) ?_ (fun w' hw' K Q hK => ?_) ?_
  rotate_left 2
  · go_wp2_with fail; exact hK _ (Mod.refl _ _)
  rotate_left
  · rfl
  refine steady_pass (by kernel_rfl) (by kernel_rfl) ?_
  refine steady_pass (by kernel_rfl) (by kernel_rfl) ?_
  refine steady_pass (by kernel_rfl) (by kernel_rfl) ?_
  refine steady_pass (by kernel_rfl) (by kernel_rfl) ?_
  refine steady_pass (by kernel_rfl) (by kernel_rfl) ?_
  refine steady_go (a' := ?_) (by kernel_rfl) ?_ (fun w' hw' K Q hK => ?_) ?_
  rotate_left 2
  · go_wp2_with fail; exact hK _ (Mod.refl _ _)
  rotate_left
  · rfl
  refine steady_go (a' := ?_) (by kernel_rfl) ?_ (fun w' hw' K Q hK => ?_) ?_
  rotate_left 2
  · go_wp2_with fail; exact hK _ (Mod.refl _ _)
  rotate_left
  · rfl
  refine steady_go (a' := ?_) (by kernel_rfl) ?_ (fun w' hw' K Q hK => ?_) ?_
  rotate_left 2
  · go_wp2_with fail; exact hK _ (Mod.refl _ _)
  rotate_left
  · rfl
  refine steady_done ?_
  refine lates_end (fun w' hw' _ => ?_)
  simp only [List.drop_succ_cons, List.drop_nil]
  have M := Lib.hid (T.out.mod.then hw')
  clear A0 hw'
  go_wp2_with fail
  go_ret
  exact ⟨rfl, M.out.to_below⟩

set_option maxHeartbeats 2000000 in
set_option maxRecDepth 100000 in
theorem floors_2fa (x0 x1 : Int) (w : World) (hx0 : -9223372036854775808 ≤ x0 ∧ x0 ≤ 9223372036854775807) (hx1 : -9223372036854775808 ≤ x1 ∧ x1 ≤ 9223372036854775807)
    (N D n r c : Int) (e1 : Rat.makeR x0 x1 = (N, D, true)) (rt : Rat.Rt N D) (e2 : Rat.floorR N D = n) (e3 : Rat.roundR N D = r) (hn1 : -9223372036854775807 ≤ n) (hn2 : n ≤ 9223372036854775807) (e5 : Rat.cmpR n 1 N D = c) (hc : c ≤ 0)
    (hp : n < 4611686018427387904) (hq : -4611686018427387904 < n) (e8 : Rat.cmpR (n + 1) 1 N D = 1) (hD : D ≠ 1) (hr : r = n) (e9 : Rat.addR N D 1 2 = (0, 0, false)) :
    Calls Try.prog 9 #[.agg #[.int .i64 x0, .int .i64 x1]] w fun e w' => e = .returned (.bool true) ∧ Below w.heap.size w w' := by
  have H1 := Lib.hid (fun W => make_any x0 x1 W hx0 hx1)
  have H2 := Lib.hid (fun W => floor_any N D W rt.bN rt.bD)
  have H3 := Lib.hid (fun W => round_any N D W rt.bN rt.bD)
  have H4 := Lib.hid (fun W => make_any n 1 W (by omega) (by omega))
  have H5 := Lib.hid (fun W => cmp_any n 1 N D W (by omega) (by omega) rt.bN rt.bD)
  have H9 := Lib.hid (fun W => add_any N D 1 2 W rt.bN rt.bD (by omega) (by omega))
  rw [e1] at H1
  rw [e2] at H2
  rw [e3] at H3
  rw [Rat.make_whole hn1 hn2] at H4
  rw [e5] at H5
  rw [e9] at H9
  have H6 := Lib.hid (fun W => make_any (n + 1) 1 W (by omega) (by omega))
  rw [Rat.make_whole (by omega) (by omega)] at H6
  have H8 := Lib.hid (fun W => cmp_any (n + 1) 1 N D W (by omega) (by omega) rt.bN rt.bD)
  rw [e8] at H8
  clear e1 e2 e3 e5 e9 e8 rt
  subst hr
  have k1 : (D != 1) = true := by simpa using hD
  have k1b : (D == 1) = false := by simpa using hD
  have k2 : (r == r) = true := by simp
  have k3 : (r != r) = false := by simp
  clear hD
  have T := Lib.hid (own1 w #[.int .i64 x0, .int .i64 x1] 40)
  go_enter Try.func9, Try.ntmps9
  go_wp2_with fail
  refine (shown_any _).mono ?_
  rintro e w63 ⟨rfl, m⟩
  have T' := Lib.hid (T.out.call m)
  clear m T 
  have T := T'
  clear T'
  obtain ⟨f0, g0, -, -⟩ := (T.out.at 0 rfl).two
  go_wp2_with fail
  refine (H1.out _).mono ?_
  rintro e w64 ⟨rfl, m⟩
  have T' := Lib.hid ((T.out.call m).alloc #[.int .i64 N, .int .i64 D] 24)
  clear m T f0 g0
  have T := T'
  clear T'
  obtain ⟨f0, g0, -, -⟩ := (T.out.at 1 rfl).two
  go_wp2_with fail
  refine (H2.out _).mono ?_
  rintro e w65 ⟨rfl, m⟩
  have T' := Lib.hid (T.out.call m)
  clear m T f0 g0
  have T := T'
  clear T'
  go_wp2_with fail
  refine (H4.out _).mono ?_
  rintro e w66 ⟨rfl, m⟩
  have T' := Lib.hid ((T.out.call m).alloc #[.int .i64 r, .int .i64 1] 24)
  clear m T 
  have T := T'
  clear T'
  obtain ⟨f0, g0, -, -⟩ := (T.out.at 2 rfl).two
  obtain ⟨f1, g1, -, -⟩ := (T.out.at 1 rfl).two
  go_wp2_with fail
  refine (H5.out _).mono ?_
  rintro e w67 ⟨rfl, m⟩
  have T' := Lib.hid (T.out.call m)
  clear m T f0 g0 f1 g1
  have T := T'
  clear T'
  go_wp2_with fail
  refine (H6.out _).mono ?_
  rintro e w68 ⟨rfl, m⟩
  have T' := Lib.hid ((T.out.call m).alloc #[.int .i64 (r + 1), .int .i64 1] 24)
  clear m T 
  have T := T'
  clear T'
  obtain ⟨f0, g0, -, -⟩ := (T.out.at 3 rfl).two
  obtain ⟨f1, g1, -, -⟩ := (T.out.at 1 rfl).two
  go_wp2_with fail
  refine (H8.out _).mono ?_
  rintro e w69 ⟨rfl, m⟩
  have T' := Lib.hid (T.out.call m)
  clear m T f0 g0 f1 g1
  have T := T'
  clear T'
  obtain ⟨f0, g0, -, -⟩ := (T.out.at 1 rfl).two
  go_wp2_with fail
  refine (H9.out _).mono ?_
  rintro e w70 ⟨rfl, m⟩
  have T' := Lib.hid ((T.out.call m).alloc #[.int .i64 0, .int .i64 0] 24)
  clear m T f0 g0
  have T := T'
  clear T'
  go_wp2_with fail
  have A0 := (T.out.at 1 rfl).every
  refine wp_region_mask 8 [true, true, true, true, true, true, true, true] [] (by kernel_rfl) (by kernel_rfl) (by simp) ?_
  simp only [pickM]
  refine steady_go (a' := ?_) (by kernel_rfl) ?_ (fun w' hw' K Q hK => ?_) ?_
  rotate_left 2
  · go_wp2_with fail; exact hK _ (Mod.refl _ _)
  rotate_left
  · rfl
  refine steady_go (a' := ?_) (by kernel_rfl) ?_ (fun w' hw' K Q hK => ?_) ?_
  rotate_left 2
  · go_wp2_with fail; exact hK _ (Mod.refl _ _)
  rotate_left
  · rfl
  refine steady_pass (by kernel_rfl) (by kernel_rfl) ?_
  refine steady_pass (by kernel_rfl) (by kernel_rfl) ?_
  refine steady_pass (by kernel_rfl) (by kernel_rfl) ?_
  refine steady_pass (by kernel_rfl) (by kernel_rfl) ?_
  refine steady_pass (by kernel_rfl) (by kernel_rfl) ?_
  refine steady_go (a' := ?_) (by kernel_rfl) ?_ (fun w' hw' K Q hK => ?_) ?_
  rotate_left 2
  · go_wp2_with fail; exact hK _ (Mod.refl _ _)
  rotate_left
  · rfl
  refine steady_done ?_
  refine lates_end (fun w' hw' _ => ?_)
  simp only [List.drop_succ_cons, List.drop_nil]
  have T' := Lib.hid (T.out.call hw')
  clear A0  hw' T
  have T := T'
  clear T'
  go_wp2_with fail
  have A0 := (T.out.at 1 rfl).every
  refine wp_region_mask 33 [true, true, true, true, true, true, true, true, true, true, true, true, true, true, true, true, true, true, true, true, true, true, true, true, true, true, true, true, true, true, true, true, true] [] (by kernel_rfl) (by kernel_rfl) (by simp) ?_
  simp only [pickM]
  refine steady_go (a' := ?_) (by kernel_rfl) ?_ (fun w' hw' K Q hK => ?_) ?_
  rotate_left 2
  · go_wp2_with fail; exact hK _ (Mod.refl _ _)
  rotate_left
  · rfl
  refine steady_go (a' := ?_) (by kernel_rfl) ?_ (fun w' hw' K Q hK => ?_) ?_
  rotate_left 2
  · go_wp2_with fail; exact hK _ (Mod.refl _ _)
  rotate_left
  · rfl
  refine steady_go (a' := ?_) (by kernel_rfl) ?_ (fun w' hw' K Q hK => ?_) ?_
  rotate_left 2
  · go_wp2_with fail; exact hK _ (Mod.refl _ _)
  rotate_left
  · rfl
  refine steady_go (a' := ?_) (by kernel_rfl) ?_ (fun w' hw' K Q hK => ?_) ?_
  rotate_left 2
  · go_wp2_with fail; exact hK _ (Mod.refl _ _)
  rotate_left
  · rfl
  refine steady_go (a' := ?_) (by kernel_rfl) ?_ (fun w' hw' K Q hK => ?_) ?_
  rotate_left 2
  · go_wp2_with fail; exact hK _ (Mod.refl _ _)
  rotate_left
  · rfl
  refine steady_go (a' := ?_) (by kernel_rfl) ?_ (fun w' hw' K Q hK => ?_) ?_
  rotate_left 2
  · go_wp2_with fail; exact hK _ (Mod.refl _ _)
  rotate_left
  · rfl
  refine steady_pass (by kernel_rfl) (by kernel_rfl) ?_
  refine steady_pass (by kernel_rfl) (by kernel_rfl) ?_
  refine steady_pass (by kernel_rfl) (by kernel_rfl) ?_
  refine steady_pass (by kernel_rfl) (by kernel_rfl) ?_
  refine steady_pass (by kernel_rfl) (by kernel_rfl) ?_
  refine steady_pass (by kernel_rfl) (by kernel_rfl) ?_
  refine steady_pass (by kernel_rfl) (by kernel_rfl) ?_
  refine steady_pass (by kernel_rfl) (by kernel_rfl) ?_
  refine steady_pass (by kernel_rfl) (by kernel_rfl) ?_
  refine steady_pass (by kernel_rfl) (by kernel_rfl) ?_
  refine steady_pass (by kernel_rfl) (by kernel_rfl) ?_
  refine steady_go (a' := ?_) (by kernel_rfl) ?_ (fun w' hw' K Q hK => ?_) ?_
  rotate_left 2
  · go_wp2_with fail; exact hK _ (Mod.refl _ _)
  rotate_left
  · rfl
  refine steady_go (a' := ?_) (by kernel_rfl) ?_ (fun w' hw' K Q hK => ?_) ?_
  rotate_left 2
  · go_wp2_with fail; exact hK _ (Mod.refl _ _)
  rotate_left
  · rfl
  refine steady_go (a' := ?_) (by kernel_rfl) ?_ (fun w' hw' K Q hK => ?_) ?_
  rotate_left 2
  · go_wp2_with fail; exact hK _ (Mod.refl _ _)
  rotate_left
  · rfl
  refine steady_go (a' := ?_) (by kernel_rfl) ?_ (fun w' hw' K Q hK => ?_) ?_
  rotate_left 2
  · go_wp2_with fail; exact hK _ (Mod.refl _ _)
  rotate_left
  · rfl
  refine steady_go (a' := ?_) (by kernel_rfl) ?_ (fun w' hw' K Q hK => ?_) ?_
  rotate_left 2
  · go_wp2_with fail
    refine ((calls_mod H3.out) _ hw').mono ?_
    rintro e w'' ⟨rfl, m''⟩
    go_wp2_with fail
    exact hK _ m''
  rotate_left
  · rfl
  refine steady_go (a' := ?_) (by kernel_rfl) ?_ (fun w' hw' K Q hK => ?_) ?_
  rotate_left 2
  · go_wp2_with fail; exact hK _ (Mod.refl _ _)
  rotate_left
  · rfl
  refine steady_go (a' := ?_) (by kernel_rfl) ?_ (fun w' hw' K Q hK => ?_) ?_
  rotate_left 2
  · go_wp2_with fail; exact hK _ (Mod.refl _ _)
  rotate_left
  · rfl
  refine steady_go (a' := ?_) (by kernel_rfl) ?_ (fun w' hw' K Q hK => ?_) ?_
  rotate_left 2
  · go_wp2_with fail; exact hK _ (Mod.refl _ _)
  rotate_left
  · rfl
  refine steady_pass (by kernel_rfl) (by kernel_rfl) ?_
  refine steady_pass (by kernel_rfl) (by kernel_rfl) ?_
  refine steady_pass (by kernel_rfl) (by kernel_rfl) ?_
  refine steady_pass (by kernel_rfl) (by kernel_rfl) ?_
  refine steady_pass (by kernel_rfl) (by kernel_rfl) ?_
  refine steady_go (a' := ?_) (by kernel_rfl) ?_ (fun w' hw' K Q hK => ?_) ?_
  rotate_left 2
  · go_wp2_with fail; exact hK _ (Mod.refl _ _)
  rotate_left
  · rfl
  refine steady_go (a' := ?_) (by kernel_rfl) ?_ (fun w' hw' K Q hK => ?_) ?_
  rotate_left 2
  · go_wp2_with fail; exact hK _ (Mod.refl _ _)
  rotate_left
  · rfl
  refine steady_go (a' := ?_) (by kernel_rfl) ?_ (fun w' hw' K Q hK => ?_) ?_
  rotate_left 2
  · go_wp2_with fail; exact hK _ (Mod.refl _ _)
  rotate_left
  · rfl
  refine steady_done ?_
  refine lates_end (fun w' hw' _ => ?_)
  simp only [List.drop_succ_cons, List.drop_nil]
  have M := Lib.hid (T.out.mod.then hw')
  clear A0 hw'
  go_wp2_with fail
  go_ret
  exact ⟨rfl, M.out.to_below⟩

set_option maxHeartbeats 2000000 in
set_option maxRecDepth 100000 in
theorem floors_2fb (x0 x1 : Int) (w : World) (hx0 : -9223372036854775808 ≤ x0 ∧ x0 ≤ 9223372036854775807) (hx1 : -9223372036854775808 ≤ x1 ∧ x1 ≤ 9223372036854775807)
    (N D n r c : Int) (e1 : Rat.makeR x0 x1 = (N, D, true)) (rt : Rat.Rt N D) (e2 : Rat.floorR N D = n) (e3 : Rat.roundR N D = r) (hn1 : -9223372036854775807 ≤ n) (hn2 : n ≤ 9223372036854775807) (e5 : Rat.cmpR n 1 N D = c) (hc : c ≤ 0)
    (hp : n < 4611686018427387904) (hq : -4611686018427387904 < n) (e8 : Rat.cmpR (n + 1) 1 N D = 1) (hD : D ≠ 1) (hr : r = n + 1) (hr2 : n < 9223372036854775807) (e9 : Rat.addR N D 1 2 = (0, 0, false)) :
    Calls Try.prog 9 #[.agg #[.int .i64 x0, .int .i64 x1]] w fun e w' => e = .returned (.bool true) ∧ Below w.heap.size w w' := by
  have H1 := Lib.hid (fun W => make_any x0 x1 W hx0 hx1)
  have H2 := Lib.hid (fun W => floor_any N D W rt.bN rt.bD)
  have H3 := Lib.hid (fun W => round_any N D W rt.bN rt.bD)
  have H4 := Lib.hid (fun W => make_any n 1 W (by omega) (by omega))
  have H5 := Lib.hid (fun W => cmp_any n 1 N D W (by omega) (by omega) rt.bN rt.bD)
  have H9 := Lib.hid (fun W => add_any N D 1 2 W rt.bN rt.bD (by omega) (by omega))
  rw [e1] at H1
  rw [e2] at H2
  rw [e3] at H3
  rw [Rat.make_whole hn1 hn2] at H4
  rw [e5] at H5
  rw [e9] at H9
  have H6 := Lib.hid (fun W => make_any (n + 1) 1 W (by omega) (by omega))
  rw [Rat.make_whole (by omega) (by omega)] at H6
  have H8 := Lib.hid (fun W => cmp_any (n + 1) 1 N D W (by omega) (by omega) rt.bN rt.bD)
  rw [e8] at H8
  clear e1 e2 e3 e5 e9 e8 rt
  subst hr
  have k1 : (D != 1) = true := by simpa using hD
  have k1b : (D == 1) = false := by simpa using hD
  have k2 : (n + 1 == n) = false := by simp; omega
  have k3 : (n + 1 != n + 1) = false := by simp
  have k4 : (n + 1 == n + 1) = true := by simp
  have k5 : IntKind.i64.wrap (n + 1) = n + 1 := IntWalk.i64_in _ (by omega)
  clear hD
  have T := Lib.hid (own1 w #[.int .i64 x0, .int .i64 x1] 40)
  go_enter Try.func9, Try.ntmps9
  go_wp2_with fail
  refine (shown_any _).mono ?_
  rintro e w71 ⟨rfl, m⟩
  have T' := Lib.hid (T.out.call m)
  clear m T 
  have T := T'
  clear T'
  obtain ⟨f0, g0, -, -⟩ := (T.out.at 0 rfl).two
  go_wp2_with fail
  refine (H1.out _).mono ?_
  rintro e w72 ⟨rfl, m⟩
  have T' := Lib.hid ((T.out.call m).alloc #[.int .i64 N, .int .i64 D] 24)
  clear m T f0 g0
  have T := T'
  clear T'
  obtain ⟨f0, g0, -, -⟩ := (T.out.at 1 rfl).two
  go_wp2_with fail
  refine (H2.out _).mono ?_
  rintro e w73 ⟨rfl, m⟩
  have T' := Lib.hid (T.out.call m)
  clear m T f0 g0
  have T := T'
  clear T'
  go_wp2_with fail
  refine (H4.out _).mono ?_
  rintro e w74 ⟨rfl, m⟩
  have T' := Lib.hid ((T.out.call m).alloc #[.int .i64 n, .int .i64 1] 24)
  clear m T 
  have T := T'
  clear T'
  obtain ⟨f0, g0, -, -⟩ := (T.out.at 2 rfl).two
  obtain ⟨f1, g1, -, -⟩ := (T.out.at 1 rfl).two
  go_wp2_with fail
  refine (H5.out _).mono ?_
  rintro e w75 ⟨rfl, m⟩
  have T' := Lib.hid (T.out.call m)
  clear m T f0 g0 f1 g1
  have T := T'
  clear T'
  go_wp2_with fail
  refine (H6.out _).mono ?_
  rintro e w76 ⟨rfl, m⟩
  have T' := Lib.hid ((T.out.call m).alloc #[.int .i64 (n + 1), .int .i64 1] 24)
  clear m T 
  have T := T'
  clear T'
  obtain ⟨f0, g0, -, -⟩ := (T.out.at 3 rfl).two
  obtain ⟨f1, g1, -, -⟩ := (T.out.at 1 rfl).two
  go_wp2_with fail
  refine (H8.out _).mono ?_
  rintro e w77 ⟨rfl, m⟩
  have T' := Lib.hid (T.out.call m)
  clear m T f0 g0 f1 g1
  have T := T'
  clear T'
  obtain ⟨f0, g0, -, -⟩ := (T.out.at 1 rfl).two
  go_wp2_with fail
  refine (H9.out _).mono ?_
  rintro e w78 ⟨rfl, m⟩
  have T' := Lib.hid ((T.out.call m).alloc #[.int .i64 0, .int .i64 0] 24)
  clear m T f0 g0
  have T := T'
  clear T'
  go_wp2_with fail
  have A0 := (T.out.at 1 rfl).every
  refine wp_region_mask 8 [true, true, true, true, true, true, true, true] [] (by kernel_rfl) (by kernel_rfl) (by simp) ?_
  simp only [pickM]
  refine steady_go (a' := ?_) (by kernel_rfl) ?_ (fun w' hw' K Q hK => ?_) ?_
  rotate_left 2
  · go_wp2_with fail; exact hK _ (Mod.refl _ _)
  rotate_left
  · rfl
  refine steady_go (a' := ?_) (by kernel_rfl) ?_ (fun w' hw' K Q hK => ?_) ?_
  rotate_left 2
  · go_wp2_with fail; exact hK _ (Mod.refl _ _)
  rotate_left
  · rfl
  refine steady_pass (by kernel_rfl) (by kernel_rfl) ?_
  refine steady_pass (by kernel_rfl) (by kernel_rfl) ?_
  refine steady_pass (by kernel_rfl) (by kernel_rfl) ?_
  refine steady_pass (by kernel_rfl) (by kernel_rfl) ?_
  refine steady_pass (by kernel_rfl) (by kernel_rfl) ?_
  refine steady_go (a' := ?_) (by kernel_rfl) ?_ (fun w' hw' K Q hK => ?_) ?_
  rotate_left 2
  · go_wp2_with fail; exact hK _ (Mod.refl _ _)
  rotate_left
  · rfl
  refine steady_done ?_
  refine lates_end (fun w' hw' _ => ?_)
  simp only [List.drop_succ_cons, List.drop_nil]
  have T' := Lib.hid (T.out.call hw')
  clear A0  hw' T
  have T := T'
  clear T'
  go_wp2_with fail
  have A0 := (T.out.at 1 rfl).every
  refine wp_region_mask 33 [true, true, true, true, true, true, true, true, true, true, true, true, true, true, true, true, true, true, true, true, true, true, true, true, true, true, true, true, true, true, true, true, true] [] (by kernel_rfl) (by kernel_rfl) (by simp) ?_
  simp only [pickM]
  refine steady_go (a' := ?_) (by kernel_rfl) ?_ (fun w' hw' K Q hK => ?_) ?_
  rotate_left 2
  · go_wp2_with fail; exact hK _ (Mod.refl _ _)
  rotate_left
  · rfl
  refine steady_go (a' := ?_) (by kernel_rfl) ?_ (fun w' hw' K Q hK => ?_) ?_
  rotate_left 2
  · go_wp2_with fail; exact hK _ (Mod.refl _ _)
  rotate_left
  · rfl
  refine steady_go (a' := ?_) (by kernel_rfl) ?_ (fun w' hw' K Q hK => ?_) ?_
  rotate_left 2
  · go_wp2_with fail; exact hK _ (Mod.refl _ _)
  rotate_left
  · rfl
  refine steady_go (a' := ?_) (by kernel_rfl) ?_ (fun w' hw' K Q hK => ?_) ?_
  rotate_left 2
  · go_wp2_with fail; exact hK _ (Mod.refl _ _)
  rotate_left
  · rfl
  refine steady_go (a' := ?_) (by kernel_rfl) ?_ (fun w' hw' K Q hK => ?_) ?_
  rotate_left 2
  · go_wp2_with fail; exact hK _ (Mod.refl _ _)
  rotate_left
  · rfl
  refine steady_go (a' := ?_) (by kernel_rfl) ?_ (fun w' hw' K Q hK => ?_) ?_
  rotate_left 2
  · go_wp2_with fail; exact hK _ (Mod.refl _ _)
  rotate_left
  · rfl
  refine steady_pass (by kernel_rfl) (by kernel_rfl) ?_
  refine steady_pass (by kernel_rfl) (by kernel_rfl) ?_
  refine steady_pass (by kernel_rfl) (by kernel_rfl) ?_
  refine steady_pass (by kernel_rfl) (by kernel_rfl) ?_
  refine steady_pass (by kernel_rfl) (by kernel_rfl) ?_
  refine steady_pass (by kernel_rfl) (by kernel_rfl) ?_
  refine steady_pass (by kernel_rfl) (by kernel_rfl) ?_
  refine steady_pass (by kernel_rfl) (by kernel_rfl) ?_
  refine steady_pass (by kernel_rfl) (by kernel_rfl) ?_
  refine steady_pass (by kernel_rfl) (by kernel_rfl) ?_
  refine steady_pass (by kernel_rfl) (by kernel_rfl) ?_
  refine steady_go (a' := ?_) (by kernel_rfl) ?_ (fun w' hw' K Q hK => ?_) ?_
  rotate_left 2
  · go_wp2_with fail; exact hK _ (Mod.refl _ _)
  rotate_left
  · rfl
  refine steady_go (a' := ?_) (by kernel_rfl) ?_ (fun w' hw' K Q hK => ?_) ?_
  rotate_left 2
  · go_wp2_with fail; exact hK _ (Mod.refl _ _)
  rotate_left
  · rfl
  refine steady_go (a' := ?_) (by kernel_rfl) ?_ (fun w' hw' K Q hK => ?_) ?_
  rotate_left 2
  · go_wp2_with fail; exact hK _ (Mod.refl _ _)
  rotate_left
  · rfl
  refine steady_go (a' := ?_) (by kernel_rfl) ?_ (fun w' hw' K Q hK => ?_) ?_
  rotate_left 2
  · go_wp2_with fail; exact hK _ (Mod.refl _ _)
  rotate_left
  · rfl
  refine steady_go (a' := ?_) (by kernel_rfl) ?_ (fun w' hw' K Q hK => ?_) ?_
  rotate_left 2
  · go_wp2_with fail
    refine ((calls_mod H3.out) _ hw').mono ?_
    rintro e w'' ⟨rfl, m''⟩
    go_wp2_with fail
    exact hK _ m''
  rotate_left
  · rfl
  refine steady_go (a' := ?_) (by kernel_rfl) ?_ (fun w' hw' K Q hK => ?_) ?_
  rotate_left 2
  · go_wp2_with fail; exact hK _ (Mod.refl _ _)
  rotate_left
  · rfl
  refine steady_go (a' := ?_) (by kernel_rfl) ?_ (fun w' hw' K Q hK => ?_) ?_
  rotate_left 2
  · go_wp2_with fail; exact hK _ (Mod.refl _ _)
  rotate_left
  · rfl
  refine steady_go (a' := ?_) (by kernel_rfl) ?_ (fun w' hw' K Q hK => ?_) ?_
  rotate_left 2
  · go_wp2_with fail; exact hK _ (Mod.refl _ _)
  rotate_left
  · rfl
  refine steady_go (a' := ?_) (by kernel_rfl) ?_ (fun w' hw' K Q hK => ?_) ?_
  rotate_left 2
  · go_wp2_with fail; exact hK _ (Mod.refl _ _)
  rotate_left
  · rfl
  refine steady_go (a' := ?_) (by kernel_rfl) ?_ (fun w' hw' K Q hK => ?_) ?_
  rotate_left 2
  · go_wp2_with fail
    refine ((calls_mod H3.out) _ hw').mono ?_
    rintro e w'' ⟨rfl, m''⟩
    go_wp2_with fail
    exact hK _ m''
  rotate_left
  · rfl
  refine steady_go (a' := ?_) (by kernel_rfl) ?_ (fun w' hw' K Q hK => ?_) ?_
  rotate_left 2
  · go_wp2_with fail; exact hK _ (Mod.refl _ _)
  rotate_left
  · rfl
  refine steady_go (a' := ?_) (by kernel_rfl) ?_ (fun w' hw' K Q hK => ?_) ?_
  rotate_left 2
  · go_wp2_with fail; exact hK _ (Mod.refl _ _)
  rotate_left
  · rfl
  refine steady_go (a' := ?_) (by kernel_rfl) ?_ (fun w' hw' K Q hK => ?_) ?_
  rotate_left 2
  · go_wp2_with fail; exact hK _ (Mod.refl _ _)
  rotate_left
  · rfl
  refine steady_go (a' := ?_) (by kernel_rfl) ?_ (fun w' hw' K Q hK => ?_) ?_
  rotate_left 2
  · go_wp2_with fail; exact hK _ (Mod.refl _ _)
  rotate_left
  · rfl
  refine steady_go (a' := ?_) (by kernel_rfl) ?_ (fun w' hw' K Q hK => ?_) ?_
  rotate_left 2
  · go_wp2_with fail; exact hK _ (Mod.refl _ _)
  rotate_left
  · rfl
  refine steady_go (a' := ?_) (by kernel_rfl) ?_ (fun w' hw' K Q hK => ?_) ?_
  rotate_left 2
  · go_wp2_with fail; exact hK _ (Mod.refl _ _)
  rotate_left
  · rfl
  refine steady_done ?_
  refine lates_end (fun w' hw' _ => ?_)
  simp only [List.drop_succ_cons, List.drop_nil]
  have M := Lib.hid (T.out.mod.then hw')
  clear A0 hw'
  go_wp2_with fail
  go_ret
  exact ⟨rfl, M.out.to_below⟩

set_option maxHeartbeats 2000000 in
set_option maxRecDepth 100000 in
theorem floors_2fc (x0 x1 : Int) (w : World) (hx0 : -9223372036854775808 ≤ x0 ∧ x0 ≤ 9223372036854775807) (hx1 : -9223372036854775808 ≤ x1 ∧ x1 ≤ 9223372036854775807)
    (N D n r c : Int) (e1 : Rat.makeR x0 x1 = (N, D, true)) (rt : Rat.Rt N D) (e2 : Rat.floorR N D = n) (e3 : Rat.roundR N D = r) (hn1 : -9223372036854775807 ≤ n) (hn2 : n ≤ 9223372036854775807) (e5 : Rat.cmpR n 1 N D = c) (hc : c ≤ 0)
    (hp : n < 4611686018427387904) (hq : -4611686018427387904 < n) (e8 : Rat.cmpR (n + 1) 1 N D = 1) (hD : D = 1) (hr : r = n) (hN : N = n) (e9 : Rat.addR N D 1 2 = (0, 0, false)) :
    Calls Try.prog 9 #[.agg #[.int .i64 x0, .int .i64 x1]] w fun e w' => e = .returned (.bool true) ∧ Below w.heap.size w w' := by
  have H1 := Lib.hid (fun W => make_any x0 x1 W hx0 hx1)
  have H2 := Lib.hid (fun W => floor_any N D W rt.bN rt.bD)
  have H3 := Lib.hid (fun W => round_any N D W rt.bN rt.bD)
  have H4 := Lib.hid (fun W => make_any n 1 W (by omega) (by omega))
  have H5 := Lib.hid (fun W => cmp_any n 1 N D W (by omega) (by omega) rt.bN rt.bD)
  have H9 := Lib.hid (fun W => add_any N D 1 2 W rt.bN rt.bD (by omega) (by omega))
  rw [e1] at H1
  rw [e2] at H2
  rw [e3] at H3
  rw [Rat.make_whole hn1 hn2] at H4
  rw [e5] at H5
  rw [e9] at H9
  have H6 := Lib.hid (fun W => make_any (n + 1) 1 W (by omega) (by omega))
  rw [Rat.make_whole (by omega) (by omega)] at H6
  have H8 := Lib.hid (fun W => cmp_any (n + 1) 1 N D W (by omega) (by omega) rt.bN rt.bD)
  rw [e8] at H8
  clear e1 e2 e3 e5 e9 e8 rt
  subst hr hN hD
  have k2 : (N == N) = true := by simp
  have k3 : (N != N) = false := by simp
  have T := Lib.hid (own1 w #[.int .i64 x0, .int .i64 x1] 40)
  go_enter Try.func9, Try.ntmps9
  go_wp2_with fail
  refine (shown_any _).mono ?_
  rintro e w79 ⟨rfl, m⟩
  have T' := Lib.hid (T.out.call m)
  clear m T 
  have T := T'
  clear T'
  obtain ⟨f0, g0, -, -⟩ := (T.out.at 0 rfl).two
  go_wp2_with fail
  refine (H1.out _).mono ?_
  rintro e w80 ⟨rfl, m⟩
  have T' := Lib.hid ((T.out.call m).alloc #[.int .i64 N, .int .i64 1] 24)
  clear m T f0 g0
  have T := T'
  clear T'
  obtain ⟨f0, g0, -, -⟩ := (T.out.at 1 rfl).two
  go_wp2_with fail
  refine (H2.out _).mono ?_
  rintro e w81 ⟨rfl, m⟩
  have T' := Lib.hid (T.out.call m)
  clear m T f0 g0
  have T := T'
  clear T'
  go_wp2_with fail
  refine (H4.out _).mono ?_
  rintro e w82 ⟨rfl, m⟩
  have T' := Lib.hid ((T.out.call m).alloc #[.int .i64 N, .int .i64 1] 24)
  clear m T 
  have T := T'
  clear T'
  obtain ⟨f0, g0, -, -⟩ := (T.out.at 2 rfl).two
  obtain ⟨f1, g1, -, -⟩ := (T.out.at 1 rfl).two
  go_wp2_with fail
  refine (H5.out _).mono ?_
  rintro e w83 ⟨rfl, m⟩
  have T' := Lib.hid (T.out.call m)
  clear m T f0 g0 f1 g1
  have T := T'
  clear T'
  go_wp2_with fail
  refine (H6.out _).mono ?_
  rintro e w84 ⟨rfl, m⟩
  have T' := Lib.hid ((T.out.call m).alloc #[.int .i64 (N + 1), .int .i64 1] 24)
  clear m T 
  have T := T'
  clear T'
  obtain ⟨f0, g0, -, -⟩ := (T.out.at 3 rfl).two
  obtain ⟨f1, g1, -, -⟩ := (T.out.at 1 rfl).two
  go_wp2_with fail
  refine (H8.out _).mono ?_
  rintro e w85 ⟨rfl, m⟩
  have T' := Lib.hid (T.out.call m)
  clear m T f0 g0 f1 g1
  have T := T'
  clear T'
  obtain ⟨f0, g0, -, -⟩ := (T.out.at 1 rfl).two
  go_wp2_with fail
  refine (H9.out _).mono ?_
  rintro e w86 ⟨rfl, m⟩
  have T' := Lib.hid ((T.out.call m).alloc #[.int .i64 0, .int .i64 0] 24)
  clear m T f0 g0
  have T := T'
  clear T'
  go_wp2_with fail
  have A0 := (T.out.at 1 rfl).every
  refine wp_region_mask 8 [true, true, true, true, true, true, true, true] [] (by kernel_rfl) (by kernel_rfl) (by simp) ?_
  simp only [pickM]
  refine steady_go (a' := ?_) (by kernel_rfl) ?_ (fun w' hw' K Q hK => ?_) ?_
  rotate_left 2
  · go_wp2_with fail; exact hK _ (Mod.refl _ _)
  rotate_left
  · rfl
  refine steady_go (a' := ?_) (by kernel_rfl) ?_ (fun w' hw' K Q hK => ?_) ?_
  rotate_left 2
  · go_wp2_with fail; exact hK _ (Mod.refl _ _)
  rotate_left
  · rfl
  refine steady_pass (by kernel_rfl) (by kernel_rfl) ?_
  refine steady_pass (by kernel_rfl) (by kernel_rfl) ?_
  refine steady_pass (by kernel_rfl) (by kernel_rfl) ?_
  refine steady_pass (by kernel_rfl) (by kernel_rfl) ?_
  refine steady_pass (by kernel_rfl) (by kernel_rfl) ?_
  refine steady_go (a' := ?_) (by kernel_rfl) ?_ (fun w' hw' K Q hK => ?_) ?_
  rotate_left 2
  · go_wp2_with fail; exact hK _ (Mod.refl _ _)
  rotate_left
  · rfl
  refine steady_done ?_
  refine lates_end (fun w' hw' _ => ?_)
  simp only [List.drop_succ_cons, List.drop_nil]
  have T' := Lib.hid (T.out.call hw')
  clear A0  hw' T
  have T := T'
  clear T'
  go_wp2_with fail
  have A0 := (T.out.at 1 rfl).every
  refine wp_region_mask 33 [true, true, true, true, true, true, true, true, true, true, true, true, true, true, true, true, true, true, true, true, true, true, true, true, true, true, true, true, true, true, true, true, true] [] (by kernel_rfl) (by kernel_rfl) (by simp) ?_
  simp only [pickM]
  refine steady_go (a' := ?_) (by kernel_rfl) ?_ (fun w' hw' K Q hK => ?_) ?_
  rotate_left 2
  · go_wp2_with fail; exact hK _ (Mod.refl _ _)
  rotate_left
  · rfl
  refine steady_go (a' := ?_) (by kernel_rfl) ?_ (fun w' hw' K Q hK => ?_) ?_
  rotate_left 2
  · go_wp2_with fail; exact hK _ (Mod.refl _ _)
  rotate_left
  · rfl
  refine steady_go (a' := ?_) (by kernel_rfl) ?_ (fun w' hw' K Q hK => ?_) ?_
  rotate_left 2
  · go_wp2_with fail; exact hK _ (Mod.refl _ _)
  rotate_left
  · rfl
  refine steady_go (a' := ?_) (by kernel_rfl) ?_ (fun w' hw' K Q hK => ?_) ?_
  rotate_left 2
  · go_wp2_with fail; exact hK _ (Mod.refl _ _)
  rotate_left
  · rfl
  refine steady_go (a' := ?_) (by kernel_rfl) ?_ (fun w' hw' K Q hK => ?_) ?_
  rotate_left 2
  · go_wp2_with fail; exact hK _ (Mod.refl _ _)
  rotate_left
  · rfl
  refine steady_go (a' := ?_) (by kernel_rfl) ?_ (fun w' hw' K Q hK => ?_) ?_
  rotate_left 2
  · go_wp2_with fail; exact hK _ (Mod.refl _ _)
  rotate_left
  · rfl
  refine steady_go (a' := ?_) (by kernel_rfl) ?_ (fun w' hw' K Q hK => ?_) ?_
  rotate_left 2
  · go_wp2_with fail; exact hK _ (Mod.refl _ _)
  rotate_left
  · rfl
  refine steady_go (a' := ?_) (by kernel_rfl) ?_ (fun w' hw' K Q hK => ?_) ?_
  rotate_left 2
  · go_wp2_with fail; exact hK _ (Mod.refl _ _)
  rotate_left
  · rfl
  refine steady_go (a' := ?_) (by kernel_rfl) ?_ (fun w' hw' K Q hK => ?_) ?_
  rotate_left 2
  · go_wp2_with fail; exact hK _ (Mod.refl _ _)
  rotate_left
  · rfl
  refine steady_go (a' := ?_) (by kernel_rfl) ?_ (fun w' hw' K Q hK => ?_) ?_
  rotate_left 2
  · go_wp2_with fail; exact hK _ (Mod.refl _ _)
  rotate_left
  · rfl
  refine steady_go (a' := ?_) (by kernel_rfl) ?_ (fun w' hw' K Q hK => ?_) ?_
  rotate_left 2
  · go_wp2_with fail; exact hK _ (Mod.refl _ _)
  rotate_left
  · rfl
  refine steady_go (a' := ?_) (by kernel_rfl) ?_ (fun w' hw' K Q hK => ?_) ?_
  rotate_left 2
  · go_wp2_with fail; exact hK _ (Mod.refl _ _)
  rotate_left
  · rfl
  refine steady_go (a' := ?_) (by kernel_rfl) ?_ (fun w' hw' K Q hK => ?_) ?_
  rotate_left 2
  · go_wp2_with fail
    refine ((calls_mod H3.out) _ hw').mono ?_
    rintro e w'' ⟨rfl, m''⟩
    go_wp2_with fail
    exact hK _ m''
  rotate_left
  · rfl
  refine steady_go (a' := ?_) (by kernel_rfl) ?_ (fun w' hw' K Q hK => ?_) ?_
  rotate_left 2
  · go_wp2_with fail; exact hK _ (Mod.refl _ _)
  rotate_left
  · rfl
  refine steady_go (a' := ?_) (by kernel_rfl) ?_ (fun w' hw' K Q hK => ?_) ?_
  rotate_left 2
  · go_wp2_with fail; exact hK _ (Mod.refl _ _)
  rotate_left
  · rfl
  refine steady_go (a' := ?_) (by kernel_rfl) ?_ (fun w' hw' K Q hK => ?_) ?_
  rotate_left 2
  · go_wp2_with fail; exact hK _ (Mod.refl _ _)
  rotate_left
  · rfl
  refine steady_go (a' := ?_) (by kernel_rfl) ?_ (fun w' hw' K Q hK => ?_) ?_
  rotate_left 2
  · go_wp2_with fail; exact hK _ (Mod.refl _ _)
  rotate_left
  · rfl
  refine steady_go (a' := ?_) (by kernel_rfl) ?_ (fun w' hw' K Q hK => ?_) ?_
  rotate_left 2
  · go_wp2_with fail; exact hK _ (Mod.refl _ _)
  rotate_left
  · rfl
  refine steady_go (a' := ?_) (by kernel_rfl) ?_ (fun w' hw' K Q hK => ?_) ?_
  rotate_left 2
  · go_wp2_with fail; exact hK _ (Mod.refl _ _)
  rotate_left
  · rfl
  refine steady_go (a' := ?_) (by kernel_rfl) ?_ (fun w' hw' K Q hK => ?_) ?_
  rotate_left 2
  · go_wp2_with fail; exact hK _ (Mod.refl _ _)
  rotate_left
  · rfl
  refine steady_go (a' := ?_) (by kernel_rfl) ?_ (fun w' hw' K Q hK => ?_) ?_
  rotate_left 2
  · go_wp2_with fail; exact hK _ (Mod.refl _ _)
  rotate_left
  · rfl
  refine steady_go (a' := ?_) (by kernel_rfl) ?_ (fun w' hw' K Q hK => ?_) ?_
  rotate_left 2
  · go_wp2_with fail
    refine ((calls_mod H3.out) _ hw').mono ?_
    rintro e w'' ⟨rfl, m''⟩
    go_wp2_with fail
    exact hK _ m''
  rotate_left
  · rfl
  refine steady_go (a' := ?_) (by kernel_rfl) ?_ (fun w' hw' K Q hK => ?_) ?_
  rotate_left 2
  · go_wp2_with fail; exact hK _ (Mod.refl _ _)
  rotate_left
  · rfl
  refine steady_go (a' := ?_) (by kernel_rfl) ?_ (fun w' hw' K Q hK => ?_) ?_
  rotate_left 2
  · go_wp2_with fail; exact hK _ (Mod.refl _ _)
  rotate_left
  · rfl
  refine steady_go (a' := ?_) (by kernel_rfl) ?_ (fun w' hw' K Q hK => ?_) ?_
  rotate_left 2
  · go_wp2_with fail; exact hK _ (Mod.refl _ _)
  rotate_left
  · rfl
  refine steady_pass (by kernel_rfl) (by kernel_rfl) ?_
  refine steady_pass (by kernel_rfl) (by kernel_rfl) ?_
  refine steady_pass (by kernel_rfl) (by kernel_rfl) ?_
  refine steady_pass (by kernel_rfl) (by kernel_rfl) ?_
  refine steady_pass (by kernel_rfl) (by kernel_rfl) ?_
  refine steady_go (a' := ?_) (by kernel_rfl) ?_ (fun w' hw' K Q hK => ?_) ?_
  rotate_left 2
  · go_wp2_with fail; exact hK _ (Mod.refl _ _)
  rotate_left
  · rfl
  refine steady_go (a' := ?_) (by kernel_rfl) ?_ (fun w' hw' K Q hK => ?_) ?_
  rotate_left 2
  · go_wp2_with fail; exact hK _ (Mod.refl _ _)
  rotate_left
  · rfl
  refine steady_go (a' := ?_) (by kernel_rfl) ?_ (fun w' hw' K Q hK => ?_) ?_
  rotate_left 2
  · go_wp2_with fail; exact hK _ (Mod.refl _ _)
  rotate_left
  · rfl
  refine steady_done ?_
  refine lates_end (fun w' hw' _ => ?_)
  simp only [List.drop_succ_cons, List.drop_nil]
  have M := Lib.hid (T.out.mod.then hw')
  clear A0 hw'
  go_wp2_with fail
  go_ret
  exact ⟨rfl, M.out.to_below⟩

set_option maxHeartbeats 2000000 in
set_option maxRecDepth 100000 in
theorem floors_3ta (x0 x1 : Int) (w : World) (hx0 : -9223372036854775808 ≤ x0 ∧ x0 ≤ 9223372036854775807) (hx1 : -9223372036854775808 ≤ x1 ∧ x1 ≤ 9223372036854775807)
    (N D n r c : Int) (e1 : Rat.makeR x0 x1 = (N, D, true)) (rt : Rat.Rt N D) (e2 : Rat.floorR N D = n) (e3 : Rat.roundR N D = r) (hn1 : -9223372036854775807 ≤ n) (hn2 : n ≤ 9223372036854775807) (e5 : Rat.cmpR n 1 N D = c) (hc : c ≤ 0)
    (hp : n < 4611686018427387904) (hq : n ≤ -4611686018427387904) (hD : D ≠ 1) (hr : r = n) (mN mD : Int) (e9 : Rat.addR N D 1 2 = (mN, mD, true)) (rm : Rat.Rt mN mD) (e7 : Rat.floorR mN mD = r) :
    Calls Try.prog 9 #[.agg #[.int .i64 x0, .int .i64 x1]] w fun e w' => e = .returned (.bool true) ∧ Below w.heap.size w w' := by
  have H1 := Lib.hid (fun W => make_any x0 x1 W hx0 hx1)
  have H2 := Lib.hid (fun W => floor_any N D W rt.bN rt.bD)
  have H3 := Lib.hid (fun W => round_any N D W rt.bN rt.bD)
  have H4 := Lib.hid (fun W => make_any n 1 W (by omega) (by omega))
  have H5 := Lib.hid (fun W => cmp_any n 1 N D W (by omega) (by omega) rt.bN rt.bD)
  have H9 := Lib.hid (fun W => add_any N D 1 2 W rt.bN rt.bD (by omega) (by omega))
  rw [e1] at H1
  rw [e2] at H2
  rw [e3] at H3
  rw [Rat.make_whole hn1 hn2] at H4
  rw [e5] at H5
  rw [e9] at H9
  have H6 := Lib.hid (fun W => make_any (n + 1) 1 W (by omega) (by omega))
  rw [Rat.make_whole (by omega) (by omega)] at H6
  have H7 := Lib.hid (fun W => floor_any mN mD W rm.bN rm.bD)
  rw [e7] at H7
  clear e1 e2 e3 e5 e9 e7 rm rt
  subst hr
  have k1 : (D != 1) = true := by simpa using hD
  have k1b : (D == 1) = false := by simpa using hD
  have k2 : (r == r) = true := by simp
  have k3 : (r != r) = false := by simp
  clear hD
  have T := Lib.hid (own1 w #[.int .i64 x0, .int .i64 x1] 40)
  go_enter Try.func9, Try.ntmps9
  go_wp2_with fail
  refine (shown_any _).mono ?_
  rintro e w87 ⟨rfl, m⟩
  have T' := Lib.hid (T.out.call m)
  clear m T 
  have T := T'
  clear T'
  obtain ⟨f0, g0, -, -⟩ := (T.out.at 0 rfl).two
  go_wp2_with fail
  refine (H1.out _).mono ?_
  rintro e w88 ⟨rfl, m⟩
  have T' := Lib.hid ((T.out.call m).alloc #[.int .i64 N, .int .i64 D] 24)
  clear m T f0 g0
  have T := T'
  clear T'
  obtain ⟨f0, g0, -, -⟩ := (T.out.at 1 rfl).two
  go_wp2_with fail
  refine (H2.out _).mono ?_
  rintro e w89 ⟨rfl, m⟩
  have T' := Lib.hid (T.out.call m)
  clear m T f0 g0
  have T := T'
  clear T'
  go_wp2_with fail
  refine (H4.out _).mono ?_
  rintro e w90 ⟨rfl, m⟩
  have T' := Lib.hid ((T.out.call m).alloc #[.int .i64 r, .int .i64 1] 24)
  clear m T 
  have T := T'
  clear T'
  obtain ⟨f0, g0, -, -⟩ := (T.out.at 2 rfl).two
  obtain ⟨f1, g1, -, -⟩ := (T.out.at 1 rfl).two
  go_wp2_with fail
  refine (H5.out _).mono ?_
  rintro e w91 ⟨rfl, m⟩
  have T' := Lib.hid (T.out.call m)
  clear m T f0 g0 f1 g1
  have T := T'
  clear T'
  go_wp2_with fail
  refine (H6.out _).mono ?_
  rintro e w92 ⟨rfl, m⟩
  have T' := Lib.hid ((T.out.call m).alloc #[.int .i64 (r + 1), .int .i64 1] 24)
  clear m T 
  have T := T'
  clear T'
  obtain ⟨f0, g0, -, -⟩ := (T.out.at 1 rfl).two
  go_wp2_with fail
  refine (H9.out _).mono ?_
  rintro e w93 ⟨rfl, m⟩
  have T' := Lib.hid ((T.out.call m).alloc #[.int .i64 mN, .int .i64 mD] 24)
  clear m T f0 g0
  have T := T'
  clear T'
  go_wp2_with fail
  have A0 := (T.out.at 1 rfl).every
  have B0 := (T.out.at 4 rfl).every
  refine wp_region_mask 8 [true, true, true, true, true, true, true, true] [] (by kernel_rfl) (by kernel_rfl) (by simp) ?_
  simp only [pickM]
  refine steady_go (a' := ?_) (by kernel_rfl) ?_ (fun w' hw' K Q hK => ?_) ?_
  rotate_left 2
  · go_wp2_with fail; exact hK _ (Mod.refl _ _)
  rotate_left
  · rfl
  refine steady_go (a' := ?_) (by kernel_rfl) ?_ (fun w' hw' K Q hK => ?_) ?_
  rotate_left 2
  · go_wp2_with fail; exact hK _ (Mod.refl _ _)
  rotate_left
  · rfl
  refine steady_go (a' := ?_) (by kernel_rfl) ?_ (fun w' hw' K Q hK => ?_) ?_
  rotate_left 2
  · go_wp2_with fail; exact hK _ (Mod.refl _ _)
  rotate_left
  · rfl
  refine steady_go (a' := ?_) (by kernel_rfl) ?_ (fun w' hw' K Q hK => ?_) ?_
  rotate_left 2
  · go_wp2_with fail
    refine ((calls_mod H7.out) _ hw').mono ?_
    rintro e w'' ⟨rfl, m''⟩
    go_wp2_with fail
    exact hK _ m''
  rotate_left
  · rfl
  refine steady_go (a' := ?_) (by kernel_rfl) ?_ (fun w' hw' K Q hK => ?_) ?_
  rotate_left 2
  · go_wp2_with fail; exact hK _ (Mod.refl _ _)
  rotate_left
  · rfl
  refine steady_go (a' := ?_) (by kernel_rfl) ?_ (fun w' hw' K Q hK => ?_) ?_
  rotate_left 2
  · go_wp2_with fail
    refine ((calls_mod H3.out) _ hw').mono ?_
    rintro e w'' ⟨rfl, m''⟩
    go_wp2_with fail
    exact hK _ m''
  rotate_left
  · rfl
  refine steady_go (a' := ?_) (by kernel_rfl) ?_ (fun w' hw' K Q hK => ?_) ?_
  rotate_left 2
  · go_wp2_with fail; exact hK _ (Mod.refl _ _)
  rotate_left
  · rfl
  refine steady_go (a' := ?_) (by kernel_rfl) ?_ (fun w' hw' K Q hK => ?_) ?_
  rotate_left 2
  · go_wp2_with fail; exact hK _ (Mod.refl _ _)
  rotate_left
  · rfl
  refine steady_done ?_
  refine lates_end (fun w' hw' _ => ?_)
  simp only [List.drop_succ_cons, List.drop_nil]
  have T' := Lib.hid (T.out.call hw')
  clear A0 B0 hw' T
  have T := T'
  clear T'
  go_wp2_with fail
  have A0 := (T.out.at 1 rfl).every
  refine wp_region_mask 33 [true, true, true, true, true, true, true, true, true, true, true, true, true, true, true, true, true, true, true, true, true, true, true, true, true, true, true, true, true, true, true, true, true] [] (by kernel_rfl) (by kernel_rfl) (by simp) ?_
  simp only [pickM]
  refine steady_go (a' := ?_) (by kernel_rfl) ?_ (fun w' hw' K Q hK => ?_) ?_
  rotate_left 2
  · go_wp2_with fail; exact hK _ (Mod.refl _ _)
  rotate_left
  · rfl
  refine steady_go (a' := ?_) (by kernel_rfl) ?_ (fun w' hw' K Q hK => ?_) ?_
  rotate_left 2
  · go_wp2_with fail; exact hK _ (Mod.refl _ _)
  rotate_left
  · rfl
  refine steady_go (a' := ?_) (by kernel_rfl) ?_ (fun w' hw' K Q hK => ?_) ?_
  rotate_left 2
  · go_wp2_with fail; exact hK _ (Mod.refl _ _)
  rotate_left
  · rfl
  refine steady_go (a' := ?_) (by kernel_rfl) ?_ (fun w' hw' K Q hK => ?_) ?_
  rotate_left 2
  · go_wp2_with fail; exact hK _ (Mod.refl _ _)
  rotate_left
  · rfl
  refine steady_go (a' := ?_) (by kernel_rfl) ?_ (fun w' hw' K Q hK => ?_) ?_
  rotate_left 2
  · go_wp2_with fail; exact hK _ (Mod.refl _ _)
  rotate_left
  · rfl
  refine steady_go (a' := ?_) (by kernel_rfl) ?_ (fun w' hw' K Q hK => ?_) ?_
  rotate_left 2
  · go_wp2_with fail; exact hK _ (Mod.refl _ _)
  rotate_left
  · rfl
  refine steady_pass (by kernel_rfl) (by kernel_rfl) ?_
  refine steady_pass (by kernel_rfl) (by kernel_rfl) ?_
  refine steady_pass (by kernel_rfl) (by kernel_rfl) ?_
  refine steady_pass (by kernel_rfl) (by kernel_rfl) ?_
  refine steady_pass (by kernel_rfl) (by kernel_rfl) ?_
  refine steady_pass (by kernel_rfl) (by kernel_rfl) ?_
  refine steady_pass (by kernel_rfl) (by kernel_rfl) ?_
  refine steady_pass (by kernel_rfl) (by kernel_rfl) ?_
  refine steady_pass (by kernel_rfl) (by kernel_rfl) ?_
  refine steady_pass (by kernel_rfl) (by kernel_rfl) ?_
  refine steady_pass (by kernel_rfl) (by kernel_rfl) ?_
  refine steady_go (a' := ?_) (by kernel_rfl) ?_ (fun w' hw' K Q hK => ?_) ?_
  rotate_left 2
  · go_wp2_with fail; exact hK _ (Mod.refl _ _)
  rotate_left
  · rfl
  refine steady_go (a' := ?_) (by kernel_rfl) ?_ (fun w' hw' K Q hK => ?_) ?_
  rotate_left 2
  · go_wp2_with fail; exact hK _ (Mod.refl _ _)
  rotate_left
  · rfl
  refine steady_go (a' := ?_) (by kernel_rfl) ?_ (fun w' hw' K Q hK => ?_) ?_
  rotate_left 2
  · go_wp2_with fail; exact hK _ (Mod.refl _ _)
  rotate_left
  · rfl
  refine steady_go (a' := ?_) (by kernel_rfl) ?_ (fun w' hw' K Q hK => ?_) ?_
  rotate_left 2
  · go_wp2_with fail; exact hK _ (Mod.refl _ _)
  rotate_left
  · rfl
  refine steady_go (a' := ?_) (by kernel_rfl) ?_ (fun w' hw' K Q hK => ?_) ?_
  rotate_left 2
  · go_wp2_with fail
    refine ((calls_mod H3.out) _ hw').mono ?_
    rintro e w'' ⟨rfl, m''⟩
    go_wp2_with fail
    exact hK _ m''
  rotate_left
  · rfl
  refine steady_go (a' := ?_) (by kernel_rfl) ?_ (fun w' hw' K Q hK => ?_) ?_
  rotate_left 2
  · go_wp2_with fail; exact hK _ (Mod.refl _ _)
  rotate_left
  · rfl
  refine steady_go (a' := ?_) (by kernel_rfl) ?_ (fun w' hw' K Q hK => ?_) ?_
  rotate_left 2
  · go_wp2_with fail; exact hK _ (Mod.refl _ _)
  rotate_left
  · rfl
  refine steady_go (a' := ?_) (by kernel_rfl) ?_ (fun w' hw' K Q hK => ?_) ?_
  rotate_left 2
  · go_wp2_with fail; exact hK _ (Mod.refl _ _)
  rotate_left
  · rfl
  refine steady_pass (by kernel_rfl) (by kernel_rfl) ?_
  refine steady_pass (by kernel_rfl) (by kernel_rfl) ?_
  refine steady_pass (by kernel_rfl) (by kernel_rfl) ?_
  refine steady_pass (by kernel_rfl) (by kernel_rfl) ?_
  refine steady_pass (by kernel_rfl) (by kernel_rfl) ?_
  refine steady_go (a' := ?_) (by kernel_rfl) ?_ (fun w' hw' K Q hK => ?_) ?_
  rotate_left 2
  · go_wp2_with fail; exact hK _ (Mod.refl _ _)
  rotate_left
  · rfl
  refine steady_go (a' := ?_) (by kernel_rfl) ?_ (fun w' hw' K Q hK => ?_) ?_
  rotate_left 2
  · go_wp2_with fail; exact hK _ (Mod.refl _ _)
  rotate_left
  · rfl
  refine steady_go (a' := ?_) (by kernel_rfl) ?_ (fun w' hw' K Q hK => ?_) ?_
  rotate_left 2
  · go_wp2_with fail; exact hK _ (Mod.refl _ _)
  rotate_left
  · rfl
  refine steady_done ?_
  refine lates_end (fun w' hw' _ => ?_)
  simp only [List.drop_succ_cons, List.drop_nil]
  have M := Lib.hid (T.out.mod.then hw')
  clear A0 hw'
  go_wp2_with fail
  go_ret
  exact ⟨rfl, M.out.to_below⟩

set_option maxHeartbeats 2000000 in
set_option maxRecDepth 100000 in
theorem floors_3tb (x0 x1 : Int) (w : World) (hx0 : -9223372036854775808 ≤ x0 ∧ x0 ≤ 9223372036854775807) (hx1 : -9223372036854775808 ≤ x1 ∧ x1 ≤ 9223372036854775807)
    (N D n r c : Int) (e1 : Rat.makeR x0 x1 = (N, D, true)) (rt : Rat.Rt N D) (e2 : Rat.floorR N D = n) (e3 : Rat.roundR N D = r) (hn1 : -9223372036854775807 ≤ n) (hn2 : n ≤ 9223372036854775807) (e5 : Rat.cmpR n 1 N D = c) (hc : c ≤ 0)
    (hp : n < 4611686018427387904) (hq : n ≤ -4611686018427387904) (hD : D ≠ 1) (hr : r = n + 1) (hr2 : n < 9223372036854775807) (mN mD : Int) (e9 : Rat.addR N D 1 2 = (mN, mD, true)) (rm : Rat.Rt mN mD) (e7 : Rat.floorR mN mD = r) :
    Calls Try.prog 9 #[.agg #[.int .i64 x0, .int .i64 x1]] w fun e w' => e = .returned (.bool true) ∧ Below w.heap.size w w' := by
  have H1 := Lib.hid (fun W => make_any x0 x1 W hx0 hx1)
  have H2 := Lib.hid (fun W => floor_any N D W rt.bN rt.bD)
  have H3 := Lib.hid (fun W => round_any N D W rt.bN rt.bD)
  have H4 := Lib.hid (fun W => make_any n 1 W (by omega) (by omega))
  have H5 := Lib.hid (fun W => cmp_any n 1 N D W (by omega) (by omega) rt.bN rt.bD)
  have H9 := Lib.hid (fun W => add_any N D 1 2 W rt.bN rt.bD (by omega) (by omega))
  rw [e1] at H1
  rw [e2] at H2
  rw [e3] at H3
  rw [Rat.make_whole hn1 hn2] at H4
  rw [e5] at H5
  rw [e9] at H9
  have H6 := Lib.hid (fun W => make_any (n + 1) 1 W (by omega) (by omega))
  rw [Rat.make_whole (by omega) (by omega)] at H6
  have H7 := Lib.hid (fun W => floor_any mN mD W rm.bN rm.bD)
  rw [e7] at H7
  clear e1 e2 e3 e5 e9 e7 rm rt
  subst hr
  have k1 : (D != 1) = true := by simpa using hD
  have k1b : (D == 1) = false := by simpa using hD
  have k2 : (n + 1 == n) = false := by simp; omega
  have k3 : (n + 1 != n + 1) = false := by simp
  have k4 : (n + 1 == n + 1) = true := by simp
  have k5 : IntKind.i64.wrap (n + 1) = n + 1 := IntWalk.i64_in _ (by omega)
  clear hD
  have T := Lib.hid (own1 w #[.int .i64 x0, .int .i64 x1] 40)
  go_enter Try.func9, Try.ntmps9
  go_wp2_with fail
  refine (shown_any _).mono ?_
  rintro e w94 ⟨rfl, m⟩
  have T' := Lib.hid (T.out.call m)
  clear m T 
  have T := T'
  clear T'
  obtain ⟨f0, g0, -, -⟩ := (T.out.at 0 rfl).two
  go_wp2_with fail
  refine (H1.out _).mono ?_
  rintro e w95 ⟨rfl, m⟩
  have T' := Lib.hid ((T.out.call m).alloc #[.int .i64 N, .int .i64 D] 24)
  clear m T f0 g0
  have T := T'
  clear T'
  obtain ⟨f0, g0, -, -⟩ := (T.out.at 1 rfl).two
  go_wp2_with fail
  refine (H2.out _).mono ?_
  rintro e w96 ⟨rfl, m⟩
  have T' := Lib.hid (T.out.call m)
  clear m T f0 g0
  have T := T'
  clear T'
  go_wp2_with fail
  refine (H4.out _).mono ?_
  rintro e w97 ⟨rfl, m⟩
  have T' := Lib.hid ((T.out.call m).alloc #[.int .i64 n, .int .i64 1] 24)
  clear m T 
  have T := T'
  clear T'
  obtain ⟨f0, g0, -, -⟩ := (T.out.at 2 rfl).two
  obtain ⟨f1, g1, -, -⟩ := (T.out.at 1 rfl).two
  go_wp2_with fail
  refine (H5.out _).mono ?_
  rintro e w98 ⟨rfl, m⟩
  have T' := Lib.hid (T.out.call m)
  clear m T f0 g0 f1 g1
  have T := T'
  clear T'
  go_wp2_with fail
  refine (H6.out _).mono ?_
  rintro e w99 ⟨rfl, m⟩
  have T' := Lib.hid ((T.out.call m).alloc #[.int .i64 (n + 1), .int .i64 1] 24)
  clear m T 
  have T := T'
  clear T'
  obtain ⟨f0, g0, -, -⟩ := (T.out.at 1 rfl).two
  go_wp2_with fail
  refine (H9.out _).mono ?_
  rintro e w100 ⟨rfl, m⟩
  have T' := Lib.hid ((T.out.call m).alloc #[.int .i64 mN, .int .i64 mD] 24)
  clear m T f0 g0
  have T := T'
  clear T'
  go_wp2_with fail
  have A0 := (T.out.at 1 rfl).every
  have B0 := (T.out.at 4 rfl).every
  refine wp_region_mask 8 [true, true, true, true, true, true, true, true] [] (by kernel_rfl) (by kernel_rfl) (by simp) ?_
  simp only [pickM]
  refine steady_go (a' := ?_) (by kernel_rfl) ?_ (fun w' hw' K Q hK => ?_) ?_
  rotate_left 2
  · go_wp2_with fail; exact hK _ (Mod.refl _ _)
  rotate_left
  · rfl
  refine steady_go (a' := ?_) (by kernel_rfl) ?_ (fun w' hw' K Q hK => ?_) ?_
  rotate_left 2
  · go_wp2_with fail; exact hK _ (Mod.refl _ _)
  rotate_left
  · rfl
  refine steady_go (a' := ?_) (by kernel_rfl) ?_ (fun w' hw' K Q hK => ?_) ?_
  rotate_left 2
  · go_wp2_with fail; exact hK _ (Mod.refl _ _)
  rotate_left
  · rfl
  refine steady_go (a' := ?_) (by kernel_rfl) ?_ (fun w' hw' K Q hK => ?_) ?_
  rotate_left 2
  · go_wp2_with fail
    refine ((calls_mod H7.out) _ hw').mono ?_
    rintro e w'' ⟨rfl, m''⟩
    go_wp2_with fail
    exact hK _ m''
  rotate_left
  · rfl
  refine steady_go (a' := ?_) (by kernel_rfl) ?_ (fun w' hw' K Q hK => ?_) ?_
  rotate_left 2
  · go_wp2_with fail; exact hK _ (Mod.refl _ _)
  rotate_left
  · rfl
  refine steady_go (a' := ?_) (by kernel_rfl) ?_ (fun w' hw' K Q hK => ?_) ?_
  rotate_left 2
  · go_wp2_with fail
    refine ((calls_mod H3.out) _ hw').mono ?_
    rintro e w'' ⟨rfl, m''⟩
    go_wp2_with fail
    exact hK _ m''
  rotate_left
  · rfl
  refine steady_go (a' := ?_) (by kernel_rfl) ?_ (fun w' hw' K Q hK => ?_) ?_
  rotate_left 2
  · go_wp2_with fail; exact hK _ (Mod.refl _ _)
  rotate_left
  · rfl
  refine steady_go (a' := ?_) (by kernel_rfl) ?_ (fun w' hw' K Q hK => ?_) ?_
  rotate_left 2
  · go_wp2_with fail; exact hK _ (Mod.refl _ _)
  rotate_left
  · rfl
  refine steady_done ?_
  refine lates_end (fun w' hw' _ => ?_)
  simp only [List.drop_succ_cons, List.drop_nil]
  have T' := Lib.hid (T.out.call hw')
  clear A0 B0 hw' T
  have T := T'
  clear T'
  go_wp2_with fail
  have A0 := (T.out.at 1 rfl).every
  refine wp_region_mask 33 [true, true, true, true, true, true, true, true, true, true, true, true, true, true, true, true, true, true, true, true, true, true, true, true, true, true, true, true, true, true, true, true, true] [] (by kernel_rfl) (by kernel_rfl) (by simp) ?_
  simp only [pickM]
  refine steady_go (a' := ?_) (by kernel_rfl) ?_ (fun w' hw' K Q hK => ?_) ?_
  rotate_left 2
  · go_wp2_with fail; exact hK _ (Mod.refl _ _)
  rotate_left
  · rfl
  refine steady_go (a' := ?_) (by kernel_rfl) ?_ (fun w' hw' K Q hK => ?_) ?_
  rotate_left 2
  · go_wp2_with fail; exact hK _ (Mod.refl _ _)
  rotate_left
  · rfl
  refine steady_go (a' := ?_) (by kernel_rfl) ?_ (fun w' hw' K Q hK => ?_) ?_
  rotate_left 2
  · go_wp2_with fail; exact hK _ (Mod.refl _ _)
  rotate_left
  · rfl
  refine steady_go (a' := ?_) (by kernel_rfl) ?_ (fun w' hw' K Q hK => ?_) ?_
  rotate_left 2
  · go_wp2_with fail; exact hK _ (Mod.refl _ _)
  rotate_left
  · rfl
  refine steady_go (a' := ?_) (by kernel_rfl) ?_ (fun w' hw' K Q hK => ?_) ?_
  rotate_left 2
  · go_wp2_with fail; exact hK _ (Mod.refl _ _)
  rotate_left
  · rfl
  refine steady_go (a' := ?_) (by kernel_rfl) ?_ (fun w' hw' K Q hK => ?_) ?_
  rotate_left 2
  · go_wp2_with fail; exact hK _ (Mod.refl _ _)
  rotate_left
  · rfl
  refine steady_pass (by kernel_rfl) (by kernel_rfl) ?_
  refine steady_pass (by kernel_rfl) (by kernel_rfl) ?_
  refine steady_pass (by kernel_rfl) (by kernel_rfl) ?_
  refine steady_pass (by kernel_rfl) (by kernel_rfl) ?_
  refine steady_pass (by kernel_rfl) (by kernel_rfl) ?_
  refine steady_pass (by kernel_rfl) (by kernel_rfl) ?_
  refine steady_pass (by kernel_rfl) (by kernel_rfl) ?_
  refine steady_pass (by kernel_rfl) (by kernel_rfl) ?_
  refine steady_pass (by kernel_rfl) (by kernel_rfl) ?_
  refine steady_pass (by kernel_rfl) (by kernel_rfl) ?_
  refine steady_pass (by kernel_rfl) (by kernel_rfl) ?_
  refine steady_go (a' := ?_) (by kernel_rfl) ?_ (fun w' hw' K Q hK => ?_) ?_
  rotate_left 2
  · go_wp2_with fail; exact hK _ (Mod.refl _ _)
  rotate_left
  · rfl
  refine steady_go (a' := ?_) (by kernel_rfl) ?_ (fun w' hw' K Q hK => ?_) ?_
  rotate_left 2
  · go_wp2_with fail; exact hK _ (Mod.refl _ _)
  rotate_left
  · rfl
  refine steady_go (a' := ?_) (by kernel_rfl) ?_ (fun w' hw' K Q hK => ?_) ?_
  rotate_left 2
  · go_wp2_with fail; exact hK _ (Mod.refl _ _)
  rotate_left
  · rfl
  refine steady_go (a' := ?_) (by kernel_rfl) ?_ (fun w' hw' K Q hK => ?_) ?_
  rotate_left 2
  · go_wp2_with fail; exact hK _ (Mod.refl _ _)
  rotate_left
  · rfl
  refine steady_go (a' := ?_) (by kernel_rfl) ?_ (fun w' hw' K Q hK => ?_) ?_
  rotate_left 2
  · go_wp2_with fail
    refine ((calls_mod H3.out) _ hw').mono ?_
    rintro e w'' ⟨rfl, m''⟩
    go_wp2_with fail
    exact hK _ m''
  rotate_left
  · rfl
  refine steady_go (a' := ?_) (by kernel_rfl) ?_ (fun w' hw' K Q hK => ?_) ?_
  rotate_left 2
  · go_wp2_with fail; exact hK _ (Mod.refl _ _)
  rotate_left
  · rfl
  refine steady_go (a' := ?_) (by kernel_rfl) ?_ (fun w' hw' K Q hK => ?_) ?_
  rotate_left 2
  · go_wp2_with fail; exact hK _ (Mod.refl _ _)
  rotate_left
  · rfl
  refine steady_go (a' := ?_) (by kernel_rfl) ?_ (fun w' hw' K Q hK => ?_) ?_
  rotate_left 2
  · go_wp2_with fail; exact hK _ (Mod.refl _ _)
  rotate_left
  · rfl
  refine steady_go (a' := ?_) (by kernel_rfl) ?_ (fun w' hw' K Q hK => ?_) ?_
  rotate_left 2
  · go_wp2_with fail; exact hK _ (Mod.refl _ _)
  rotate_left
  · rfl
  refine steady_go (a' := ?_) (by kernel_rfl) ?_ (fun w' hw' K Q hK => ?_) ?_
  rotate_left 2
  · go_wp2_with fail
    refine ((calls_mod H3.out) _ hw').mono ?_
    rintro e w'' ⟨rfl, m''⟩
    go_wp2_with fail
    exact hK _ m''
  rotate_left
  · rfl
  refine steady_go (a' := ?_) (by kernel_rfl) ?_ (fun w' hw' K Q hK => ?_) ?_
  rotate_left 2
  · go_wp2_with fail; exact hK _ (Mod.refl _ _)
  rotate_left
  · rfl
  refine steady_go (a' := ?_) (by kernel_rfl) ?_ (fun w' hw' K Q hK => ?_) ?_
  rotate_left 2
  · go_wp2_with fail; exact hK _ (Mod.refl _ _)
  rotate_left
  · rfl
  refine steady_go (a' := ?_) (by kernel_rfl) ?_ (fun w' hw' K Q hK => ?_) ?_
  rotate_left 2
  · go_wp2_with fail; exact hK _ (Mod.refl _ _)
  rotate_left
  · rfl
  refine steady_go (a' := ?_) (by kernel_rfl) ?_ (fun w' hw' K Q hK => ?_) ?_
  rotate_left 2
  · go_wp2_with fail; exact hK _ (Mod.refl _ _)
  rotate_left
  · rfl
  refine steady_go (a' := ?_) (by kernel_rfl) ?_ (fun w' hw' K Q hK => ?_) ?_
  rotate_left 2
  · go_wp2_with fail; exact hK _ (Mod.refl _ _)
  rotate_left
  · rfl
  refine steady_go (a' := ?_) (by kernel_rfl) ?_ (fun w' hw' K Q hK => ?_) ?_
  rotate_left 2
  · go_wp2_with fail; exact hK _ (Mod.refl _ _)
  rotate_left
  · rfl
  refine steady_done ?_
  refine lates_end (fun w' hw' _ => ?_)
  simp only [List.drop_succ_cons, List.drop_nil]
  have M := Lib.hid (T.out.mod.then hw')
  clear A0 hw'
  go_wp2_with fail
  go_ret
  exact ⟨rfl, M.out.to_below⟩

set_option maxHeartbeats 2000000 in
set_option maxRecDepth 100000 in
theorem floors_3tc (x0 x1 : Int) (w : World) (hx0 : -9223372036854775808 ≤ x0 ∧ x0 ≤ 9223372036854775807) (hx1 : -9223372036854775808 ≤ x1 ∧ x1 ≤ 9223372036854775807)
    (N D n r c : Int) (e1 : Rat.makeR x0 x1 = (N, D, true)) (rt : Rat.Rt N D) (e2 : Rat.floorR N D = n) (e3 : Rat.roundR N D = r) (hn1 : -9223372036854775807 ≤ n) (hn2 : n ≤ 9223372036854775807) (e5 : Rat.cmpR n 1 N D = c) (hc : c ≤ 0)
    (hp : n < 4611686018427387904) (hq : n ≤ -4611686018427387904) (hD : D = 1) (hr : r = n) (hN : N = n) (mN mD : Int) (e9 : Rat.addR N D 1 2 = (mN, mD, true)) (rm : Rat.Rt mN mD) (e7 : Rat.floorR mN mD = r) :
    Calls Try.prog 9 #[.agg #[.int .i64 x0, .int .i64 x1]] w fun e w' => e = .returned (.bool true) ∧ Below w.heap.size w w' := by
  have H1 := Lib.hid (fun W => make_any x0 x1 W hx0 hx1)
  have H2 := Lib.hid (fun W => floor_any N D W rt.bN rt.bD)
  have H3 := Lib.hid (fun W => round_any N D W rt.bN rt.bD)
  have H4 := Lib.hid (fun W => make_any n 1 W (by omega) (by omega))
  have H5 := Lib.hid (fun W => cmp_any n 1 N D W (by omega) (by omega) rt.bN rt.bD)
  have H9 := Lib.hid (fun W => add_any N D 1 2 W rt.bN rt.bD (by omega) (by omega))
  rw [e1] at H1
  rw [e2] at H2
  rw [e3] at H3
  rw [Rat.make_whole hn1 hn2] at H4
  rw [e5] at H5
  rw [e9] at H9
  have H6 := Lib.hid (fun W => make_any (n + 1) 1 W (by omega) (by omega))
  rw [Rat.make_whole (by omega) (by omega)] at H6
  have H7 := Lib.hid (fun W => floor_any mN mD W rm.bN rm.bD)
  rw [e7] at H7
  clear e1 e2 e3 e5 e9 e7 rm rt
  subst hr hN hD
  have k2 : (N == N) = true := by simp
  have k3 : (N != N) = false := by simp
  have T := Lib.hid (own1 w #[.int .i64 x0, .int .i64 x1] 40)
  go_enter Try.func9, Try.ntmps9
  go_wp2_with fail
  refine (shown_any _).mono ?_
  rintro e w101 ⟨rfl, m⟩
  have T' := Lib.hid (T.out.call m)
  clear m T 
  have T := T'
  clear T'
  obtain ⟨f0, g0, -, -⟩ := (T.out.at 0 rfl).two
  go_wp2_with fail
  refine (H1.out _).mono ?_
  rintro e w102 ⟨rfl, m⟩
  have T' := Lib.hid ((T.out.call m).alloc #[.int .i64 N, .int .i64 1] 24)
  clear m T f0 g0
  have T := T'
  clear T'
  obtain ⟨f0, g0, -, -⟩ := (T.out.at 1 rfl).two
  go_wp2_with fail
  refine (H2.out _).mono ?_
  rintro e w103 ⟨rfl, m⟩
  have T' := Lib.hid (T.out.call m)
  clear m T f0 g0
  have T := T'
  clear T'
  go_wp2_with fail
  refine (H4.out _).mono ?_
  rintro e w104 ⟨rfl, m⟩
  have T' := Lib.hid ((T.out.call m).alloc #[.int .i64 N, .int .i64 1] 24)
  clear m T 
  have T := T'
  clear T'
  obtain ⟨f0, g0, -, -⟩ := (T.out.at 2 rfl).two
  obtain ⟨f1, g1, -, -⟩ := (T.out.at 1 rfl).two
  go_wp2_with fail
  refine (H5.out _).mono ?_
  rintro e w105 ⟨rfl, m⟩
  have T' := Lib.hid (T.out.call m)
  clear m T f0 g0 f1 g1
  have T := T'
  clear T'
  go_wp2_with fail
  refine (H6.out _).mono ?_
  rintro e w106 ⟨rfl, m⟩
  have T' := Lib.hid ((T.out.call m).alloc #[.int .i64 (N + 1), .int .i64 1] 24)
  clear m T 
  have T := T'
  clear T'
  obtain ⟨f0, g0, -, -⟩ := (T.out.at 1 rfl).two
  go_wp2_with fail
  refine (H9.out _).mono ?_
  rintro e w107 ⟨rfl, m⟩
  have T' := Lib.hid ((T.out.call m).alloc #[.int .i64 mN, .int .i64 mD] 24)
  clear m T f0 g0
  have T := T'
  clear T'
  go_wp2_with fail
  have A0 := (T.out.at 1 rfl).every
  have B0 := (T.out.at 4 rfl).every
  refine wp_region_mask 8 [true, true, true, true, true, true, true, true] [] (by kernel_rfl) (by kernel_rfl) (by simp) ?_
  simp only [pickM]
  refine steady_go (a' := ?_) (by kernel_rfl) ?_ (fun w' hw' K Q hK => ?_) ?_
  rotate_left 2
  · go_wp2_with fail; exact hK _ (Mod.refl _ _)
  rotate_left
  · rfl
  refine steady_go (a' := ?_) (by kernel_rfl) ?_ (fun w' hw' K Q hK => ?_) ?_
  rotate_left 2
  · go_wp2_with fail; exact hK _ (Mod.refl _ _)
  rotate_left
  · rfl
  refine steady_go (a' := ?_) (by kernel_rfl) ?_ (fun w' hw' K Q hK => ?_) ?_
  rotate_left 2
  · go_wp2_with fail; exact hK _ (Mod.refl _ _)
  rotate_left
  · rfl
  refine steady_go (a' := ?_) (by kernel_rfl) ?_ (fun w' hw' K Q hK => ?_) ?_
  rotate_left 2
  · go_wp2_with fail
    refine ((calls_mod H7.out) _ hw').mono ?_
    rintro e w'' ⟨rfl, m''⟩
    go_wp2_with fail
    exact hK _ m''
  rotate_left
  · rfl
  refine steady_go (a' := ?_) (by kernel_rfl) ?_ (fun w' hw' K Q hK => ?_) ?_
  rotate_left 2
  · go_wp2_with fail; exact hK _ (Mod.refl _ _)
  rotate_left
  · rfl
  refine steady_go (a' := ?_) (by kernel_rfl) ?_ (fun w' hw' K Q hK => ?_) ?_
  rotate_left 2
  · go_wp2_with fail
    refine ((calls_mod H3.out) _ hw').mono ?_
    rintro e w'' ⟨rfl, m''⟩
    go_wp2_with fail
    exact hK _ m''
  rotate_left
  · rfl
  refine steady_go (a' := ?_) (by kernel_rfl) ?_ (fun w' hw' K Q hK => ?_) ?_
  rotate_left 2
  · go_wp2_with fail; exact hK _ (Mod.refl _ _)
  rotate_left
  · rfl
  refine steady_go (a' := ?_) (by kernel_rfl) ?_ (fun w' hw' K Q hK => ?_) ?_
  rotate_left 2
  · go_wp2_with fail; exact hK _ (Mod.refl _ _)
  rotate_left
  · rfl
  refine steady_done ?_
  refine lates_end (fun w' hw' _ => ?_)
  simp only [List.drop_succ_cons, List.drop_nil]
  have T' := Lib.hid (T.out.call hw')
  clear A0 B0 hw' T
  have T := T'
  clear T'
  go_wp2_with fail
  have A0 := (T.out.at 1 rfl).every
  refine wp_region_mask 33 [true, true, true, true, true, true, true, true, true, true, true, true, true, true, true, true, true, true, true, true, true, true, true, true, true, true, true, true, true, true, true, true, true] [] (by kernel_rfl) (by kernel_rfl) (by simp) ?_
  simp only [pickM]
  refine steady_go (a' := ?_) (by kernel_rfl) ?_ (fun w' hw' K Q hK => ?_) ?_
  rotate_left 2
  · go_wp2_with fail; exact hK _ (Mod.refl _ _)
  rotate_left
  · rfl
  refine steady_go (a' := ?_) (by kernel_rfl) ?_ (fun w' hw' K Q hK => ?_) ?_
  rotate_left 2
  · go_wp2_with fail; exact hK _ (Mod.refl _ _)
  rotate_left
  · rfl
  refine steady_go (a' := ?_) (by kernel_rfl) ?_ (fun w' hw' K Q hK => ?_) ?_
  rotate_left 2
  · go_wp2_with fail; exact hK _ (Mod.refl _ _)
  rotate_left
  · rfl
  refine steady_go (a' := ?_) (by kernel_rfl) ?_ (fun w' hw' K Q hK => ?_) ?_
  rotate_left 2
  · go_wp2_with fail; exact hK _ (Mod.refl _ _)
  rotate_left
  · rfl
  refine steady_go (a' := ?_) (by kernel_rfl) ?_ (fun w' hw' K Q hK => ?_) ?_
  rotate_left 2
  · go_wp2_with fail; exact hK _ (Mod.refl _ _)
  rotate_left
  · rfl
  refine steady_go (a' := ?_) (by kernel_rfl) ?_ (fun w' hw' K Q hK => ?_) ?_
  rotate_left 2
  · go_wp2_with fail; exact hK _ (Mod.refl _ _)
  rotate_left
  · rfl
  refine steady_go (a' := ?_) (by kernel_rfl) ?_ (fun w' hw' K Q hK => ?_) ?_
  rotate_left 2
  · go_wp2_with fail; exact hK _ (Mod.refl _ _)
  rotate_left
  · rfl
  refine steady_go (a' := ?_) (by kernel_rfl) ?_ (fun w' hw' K Q hK => ?_) ?_
  rotate_left 2
  · go_wp2_with fail; exact hK _ (Mod.refl _ _)
  rotate_left
  · rfl
  refine steady_go (a' := ?_) (by kernel_rfl) ?_ (fun w' hw' K Q hK => ?_) ?_
  rotate_left 2
  · go_wp2_with fail; exact hK _ (Mod.refl _ _)
  rotate_left
  · rfl
  refine steady_go (a' := ?_) (by kernel_rfl) ?_ (fun w' hw' K Q hK => ?_) ?_
  rotate_left 2
  · go_wp2_with fail; exact hK _ (Mod.refl _ _)
  rotate_left
  · rfl
  refine steady_go (a' := ?_) (by kernel_rfl) ?_ (fun w' hw' K Q hK => ?_) ?_
  rotate_left 2
  · go_wp2_with fail; exact hK _ (Mod.refl _ _)
  rotate_left
  · rfl
  refine steady_go (a' := ?_) (by kernel_rfl) ?_ (fun w' hw' K Q hK => ?_) ?_
  rotate_left 2
  · go_wp2_with fail; exact hK _ (Mod.refl _ _)
  rotate_left
  · rfl
  refine steady_go (a' := ?_) (by kernel_rfl) ?_ (fun w' hw' K Q hK => ?_) ?_
  rotate_left 2
  · go_wp2_with fail
    refine ((calls_mod H3.out) _ hw').mono ?_
    rintro e w'' ⟨rfl, m''⟩
    go_wp2_with fail
    exact hK _ m''
  rotate_left
  · rfl
  refine steady_go (a' := ?_) (by kernel_rfl) ?_ (fun w' hw' K Q hK => ?_) ?_
  rotate_left 2
  · go_wp2_with fail; exact hK _ (Mod.refl _ _)
  rotate_left
  · rfl
  refine steady_go (a' := ?_) (by kernel_rfl) ?_ (fun w' hw' K Q hK => ?_) ?_
  rotate_left 2
  · go_wp2_with fail; exact hK _ (Mod.refl _ _)
  rotate_left
  · rfl
  refine steady_go (a' := ?_) (by kernel_rfl) ?_ (fun w' hw' K Q hK => ?_) ?_
  rotate_left 2
  · go_wp2_with fail; exact hK _ (Mod.refl _ _)
  rotate_left
  · rfl
  refine steady_go (a' := ?_) (by kernel_rfl) ?_ (fun w' hw' K Q hK => ?_) ?_
  rotate_left 2
  · go_wp2_with fail; exact hK _ (Mod.refl _ _)
  rotate_left
  · rfl
  refine steady_go (a' := ?_) (by kernel_rfl) ?_ (fun w' hw' K Q hK => ?_) ?_
  rotate_left 2
  · go_wp2_with fail; exact hK _ (Mod.refl _ _)
  rotate_left
  · rfl
  refine steady_go (a' := ?_) (by kernel_rfl) ?_ (fun w' hw' K Q hK => ?_) ?_
  rotate_left 2
  · go_wp2_with fail; exact hK _ (Mod.refl _ _)
  rotate_left
  · rfl
  refine steady_go (a' := ?_) (by kernel_rfl) ?_ (fun w' hw' K Q hK => ?_) ?_
  rotate_left 2
  · go_wp2_with fail; exact hK _ (Mod.refl _ _)
  rotate_left
  · rfl
  refine steady_go (a' := ?_) (by kernel_rfl) ?_ (fun w' hw' K Q hK => ?_) ?_
  rotate_left 2
  · go_wp2_with fail; exact hK _ (Mod.refl _ _)
  rotate_left
  · rfl
  refine steady_go (a' := ?_) (by kernel_rfl) ?_ (fun w' hw' K Q hK => ?_) ?_
  rotate_left 2
  · go_wp2_with fail
    refine ((calls_mod H3.out) _ hw').mono ?_
    rintro e w'' ⟨rfl, m''⟩
    go_wp2_with fail
    exact hK _ m''
  rotate_left
  · rfl
  refine steady_go (a' := ?_) (by kernel_rfl) ?_ (fun w' hw' K Q hK => ?_) ?_
  rotate_left 2
  · go_wp2_with fail; exact hK _ (Mod.refl _ _)
  rotate_left
  · rfl
  refine steady_go (a' := ?_) (by kernel_rfl) ?_ (fun w' hw' K Q hK => ?_) ?_
  rotate_left 2
  · go_wp2_with fail; exact hK _ (Mod.refl _ _)
  rotate_left
  · rfl
  refine steady_go (a' := ?_) (by kernel_rfl) ?_ (fun w' hw' K Q hK => ?_) ?_
  rotate_left 2
  · go_wp2_with fail; exact hK _ (Mod.refl _ _)
  rotate_left
  · rfl
  refine steady_pass (by kernel_rfl) (by kernel_rfl) ?_
  refine steady_pass (by kernel_rfl) (by kernel_rfl) ?_
  refine steady_pass (by kernel_rfl) (by kernel_rfl) ?_
  refine steady_pass (by kernel_rfl) (by kernel_rfl) ?_
  refine steady_pass (by kernel_rfl) (by kernel_rfl) ?_
  refine steady_go (a' := ?_) (by kernel_rfl) ?_ (fun w' hw' K Q hK => ?_) ?_
  rotate_left 2
  · go_wp2_with fail; exact hK _ (Mod.refl _ _)
  rotate_left
  · rfl
  refine steady_go (a' := ?_) (by kernel_rfl) ?_ (fun w' hw' K Q hK => ?_) ?_
  rotate_left 2
  · go_wp2_with fail; exact hK _ (Mod.refl _ _)
  rotate_left
  · rfl
  refine steady_go (a' := ?_) (by kernel_rfl) ?_ (fun w' hw' K Q hK => ?_) ?_
  rotate_left 2
  · go_wp2_with fail; exact hK _ (Mod.refl _ _)
  rotate_left
  · rfl
  refine steady_done ?_
  refine lates_end (fun w' hw' _ => ?_)
  simp only [List.drop_succ_cons, List.drop_nil]
  have M := Lib.hid (T.out.mod.then hw')
  clear A0 hw'
  go_wp2_with fail
  go_ret
  exact ⟨rfl, M.out.to_below⟩

set_option maxHeartbeats 2000000 in
set_option maxRecDepth 100000 in
theorem floors_3fa (x0 x1 : Int) (w : World) (hx0 : -9223372036854775808 ≤ x0 ∧ x0 ≤ 9223372036854775807) (hx1 : -9223372036854775808 ≤ x1 ∧ x1 ≤ 9223372036854775807)
    (N D n r c : Int) (e1 : Rat.makeR x0 x1 = (N, D, true)) (rt : Rat.Rt N D) (e2 : Rat.floorR N D = n) (e3 : Rat.roundR N D = r) (hn1 : -9223372036854775807 ≤ n) (hn2 : n ≤ 9223372036854775807) (e5 : Rat.cmpR n 1 N D = c) (hc : c ≤ 0)
    (hp : n < 4611686018427387904) (hq : n ≤ -4611686018427387904) (hD : D ≠ 1) (hr : r = n) (e9 : Rat.addR N D 1 2 = (0, 0, false)) :
    Calls Try.prog 9 #[.agg #[.int .i64 x0, .int .i64 x1]] w fun e w' => e = .returned (.bool true) ∧ Below w.heap.size w w' := by
  have H1 := Lib.hid (fun W => make_any x0 x1 W hx0 hx1)
  have H2 := Lib.hid (fun W => floor_any N D W rt.bN rt.bD)
  have H3 := Lib.hid (fun W => round_any N D W rt.bN rt.bD)
  have H4 := Lib.hid (fun W => make_any n 1 W (by omega) (by omega))
  have H5 := Lib.hid (fun W => cmp_any n 1 N D W (by omega) (by omega) rt.bN rt.bD)
  have H9 := Lib.hid (fun W => add_any N D 1 2 W rt.bN rt.bD (by omega) (by omega))
  rw [e1] at H1
  rw [e2] at H2
  rw [e3] at H3
  rw [Rat.make_whole hn1 hn2] at H4
  rw [e5] at H5
  rw [e9] at H9
  have H6 := Lib.hid (fun W => make_any (n + 1) 1 W (by omega) (by omega))
  rw [Rat.make_whole (by omega) (by omega)] at H6
  clear e1 e2 e3 e5 e9 rt
  subst hr
  have k1 : (D != 1) = true := by simpa using hD
  have k1b : (D == 1) = false := by simpa using hD
  have k2 : (r == r) = true := by simp
  have k3 : (r != r) = false := by simp
  clear hD
  have T := Lib.hid (own1 w #[.int .i64 x0, .int .i64 x1] 40)
  go_enter Try.func9, Try.ntmps9
  go_wp2_with fail
  refine (shown_any _).mono ?_
  rintro e w108 ⟨rfl, m⟩
  have T' := Lib.hid (T.out.call m)
  clear m T 
  have T := T'
  clear T'
  obtain ⟨f0, g0, -, -⟩ := (T.out.at 0 rfl).two
  go_wp2_with fail
  refine (H1.out _).mono ?_
  rintro e w109 ⟨rfl, m⟩
  have T' := Lib.hid ((T.out.call m).alloc #[.int .i64 N, .int .i64 D] 24)
  clear m T f0 g0
  have T := T'
  clear T'
  obtain ⟨f0, g0, -, -⟩ := (T.out.at 1 rfl).two
  go_wp2_with fail
  refine (H2.out _).mono ?_
  rintro e w110 ⟨rfl, m⟩
  have T' := Lib.hid (T.out.call m)
  clear m T f0 g0
  have T := T'
  clear T'
  go_wp2_with fail
  refine (H4.out _).mono ?_
  rintro e w111 ⟨rfl, m⟩
  have T' := Lib.hid ((T.out.call m).alloc #[.int .i64 r, .int .i64 1] 24)
  clear m T 
  have T := T'
  clear T'
  obtain ⟨f0, g0, -, -⟩ := (T.out.at 2 rfl).two
  obtain ⟨f1, g1, -, -⟩ := (T.out.at 1 rfl).two
  go_wp2_with fail
  refine (H5.out _).mono ?_
  rintro e w112 ⟨rfl, m⟩
  have T' := Lib.hid (T.out.call m)
  clear m T f0 g0 f1 g1
  have T := T'
  clear T'
  go_wp2_with fail
  refine (H6.out _).mono ?_
  rintro e w113 ⟨rfl, m⟩
  have T' := Lib.hid ((T.out.call m).alloc #[.int .i64 (r + 1), .int .i64 1] 24)
  clear m T 
  have T := T'
  clear T'
  obtain ⟨f0, g0, -, -⟩ := (T.out.at 1 rfl).two
  go_wp2_with fail
  refine (H9.out _).mono ?_
  rintro e w114 ⟨rfl, m⟩
  have T' := Lib.hid ((T.out.call m).alloc #[.int .i64 0, .int .i64 0] 24)
  clear m T f0 g0
  have T := T'
  clear T'
  go_wp2_with fail
  have A0 := (T.out.at 1 rfl).every
  refine wp_region_mask 8 [true, true, true, true, true, true, true, true] [] (by kernel_rfl) (by kernel_rfl) (by simp) ?_
  simp only [pickM]
  refine steady_go (a' := ?_) (by kernel_rfl) ?_ (fun w' hw' K Q hK => ?_) ?_
  rotate_left 2
  · go_wp2_with fail; exact hK _ (Mod.refl _ _)
  rotate_left
  · rfl
  refine steady_go (a' := ?_) (by kernel_rfl) ?_ (fun w' hw' K Q hK => ?_) ?_
  rotate_left 2
  · go_wp2_with fail; exact hK _ (Mod.refl _ _)
  rotate_left
  · rfl
  refine steady_pass (by kernel_rfl) (by kernel_rfl) ?_
  refine steady_pass (by kernel_rfl) (by kernel_rfl) ?_
  refine steady_pass (by kernel_rfl) (by kernel_rfl) ?_
  refine steady_pass (by kernel_rfl) (by kernel_rfl) ?_
  refine steady_pass (by kernel_rfl) (by kernel_rfl) ?_
  refine steady_go (a' := ?_) (by kernel_rfl) ?_ (fun w' hw' K Q hK => ?_) ?_
  rotate_left 2
  · go_wp2_with fail; exact hK _ (Mod.refl _ _)
  rotate_left
  · rfl
  refine steady_done ?_
  refine lates_end (fun w' hw' _ => ?_)
  simp only [List.drop_succ_cons, List.drop_nil]
  have T' := Lib.hid (T.out.call hw')
  clear A0  hw' T
  have T := T'
  clear T'
  go_wp2_with fail
  have A0 := (T.out.at 1 rfl).every
  refine wp_region_mask 33 [true, true, true, true, true, true, true, true, true, true, true, true, true, true, true, true, true, true, true, true, true, true, true, true, true, true, true, true, true, true, true, true, true] [] (by kernel_rfl) (by kernel_rfl) (by simp) ?_
  simp only [pickM]
  refine steady_go (a' := ?_) (by kernel_rfl) ?_ (fun w' hw' K Q hK => ?_) ?_
  rotate_left 2
  · go_wp2_with fail; exact hK _ (Mod.refl _ _)
  rotate_left
  · rfl
  refine steady_go (a' := ?_) (by kernel_rfl) ?_ (fun w' hw' K Q hK => ?_) ?_
  rotate_left 2
  · go_wp2_with fail; exact hK _ (Mod.refl _ _)
  rotate_left
  · rfl
  refine steady_go (a' := ?_) (by kernel_rfl) ?_ (fun w' hw' K Q hK => ?_) ?_
  rotate_left 2
  · go_wp2_with fail; exact hK _ (Mod.refl _ _)
  rotate_left
  · rfl
  refine steady_go (a' := ?_) (by kernel_rfl) ?_ (fun w' hw' K Q hK => ?_) ?_
  rotate_left 2
  · go_wp2_with fail; exact hK _ (Mod.refl _ _)
  rotate_left
  · rfl
  refine steady_go (a' := ?_) (by kernel_rfl) ?_ (fun w' hw' K Q hK => ?_) ?_
  rotate_left 2
  · go_wp2_with fail; exact hK _ (Mod.refl _ _)
  rotate_left
  · rfl
  refine steady_go (a' := ?_) (by kernel_rfl) ?_ (fun w' hw' K Q hK => ?_) ?_
  rotate_left 2
  · go_wp2_with fail; exact hK _ (Mod.refl _ _)
  rotate_left
  · rfl
  refine steady_pass (by kernel_rfl) (by kernel_rfl) ?_
  refine steady_pass (by kernel_rfl) (by kernel_rfl) ?_
  refine steady_pass (by kernel_rfl) (by kernel_rfl) ?_
  refine steady_pass (by kernel_rfl) (by kernel_rfl) ?_
  refine steady_pass (by kernel_rfl) (by kernel_rfl) ?_
  refine steady_pass (by kernel_rfl) (by kernel_rfl) ?_
  refine steady_pass (by kernel_rfl) (by kernel_rfl) ?_
  refine steady_pass (by kernel_rfl) (by kernel_rfl) ?_
  refine steady_pass (by kernel_rfl) (by kernel_rfl) ?_
  refine steady_pass (by kernel_rfl) (by kernel_rfl) ?_
  refine steady_pass (by kernel_rfl) (by kernel_rfl) ?_
  refine steady_go (a' := ?_) (by kernel_rfl) ?_ (fun w' hw' K Q hK => ?_) ?_
  rotate_left 2
  · go_wp2_with fail; exact hK _ (Mod.refl _ _)
  rotate_left
  · rfl
  refine steady_go (a' := ?_) (by kernel_rfl) ?_ (fun w' hw' K Q hK => ?_) ?_
  rotate_left 2
  · go_wp2_with fail; exact hK _ (Mod.refl _ _)
  rotate_left
  · rfl
  refine steady_go (a' := ?_) (by kernel_rfl) ?_ (fun w' hw' K Q hK => ?_) ?_
  rotate_left 2
  · go_wp2_with fail; exact hK _ (Mod.refl _ _)
  rotate_left
  · rfl
  refine steady_go (a' := ?_) (by kernel_rfl) ?_ (fun w' hw' K Q hK => ?_) ?_
  rotate_left 2
  · go_wp2_with fail; exact hK _ (Mod.refl _ _)
  rotate_left
  · rfl
  refine steady_go (a' := ?_) (by kernel_rfl) ?_ (fun w' hw' K Q hK => ?_) ?_
  rotate_left 2
  · go_wp2_with fail
    refine ((calls_mod H3.out) _ hw').mono ?_
    rintro e w'' ⟨rfl, m''⟩
    go_wp2_with fail
    exact hK _ m''
  rotate_left
  · rfl
  refine steady_go (a' := ?_) (by kernel_rfl) ?_ (fun w' hw' K Q hK => ?_) ?_
  rotate_left 2
  · go_wp2_with fail; exact hK _ (Mod.refl _ _)
  rotate_left
  · rfl
  refine steady_go (a' := ?_) (by kernel_rfl) ?_ (fun w' hw' K Q hK => ?_) ?_
  rotate_left 2
  · go_wp2_with fail; exact hK _ (Mod.refl _ _)
  rotate_left
  · rfl
  refine steady_go (a' := ?_) (by kernel_rfl) ?_ (fun w' hw' K Q hK => ?_) ?_
  rotate_left 2
  · go_wp2_with fail; exact hK _ (Mod.refl _ _)
  rotate_left
  · rfl
  refine steady_pass (by kernel_rfl) (by kernel_rfl) ?_
  refine steady_pass (by kernel_rfl) (by kernel_rfl) ?_
  refine steady_pass (by kernel_rfl) (by kernel_rfl) ?_
  refine steady_pass (by kernel_rfl) (by kernel_rfl) ?_
  refine steady_pass (by kernel_rfl) (by kernel_rfl) ?_
  refine steady_go (a' := ?_) (by kernel_rfl) ?_ (fun w' hw' K Q hK => ?_) ?_
  rotate_left 2
  · go_wp2_with fail; exact hK _ (Mod.refl _ _)
  rotate_left
  · rfl
  refine steady_go (a' := ?_) (by kernel_rfl) ?_ (fun w' hw' K Q hK => ?_) ?_
  rotate_left 2
  · go_wp2_with fail; exact hK _ (Mod.refl _ _)
  rotate_left
  · rfl
  refine steady_go (a' := ?_) (by kernel_rfl) ?_ (fun w' hw' K Q hK => ?_) ?_
  rotate_left 2
  · go_wp2_with fail; exact hK _ (Mod.refl _ _)
  rotate_left
  · rfl
  refine steady_done ?_
  refine lates_end (fun w' hw' _ => ?_)
  simp only [List.drop_succ_cons, List.drop_nil]
  have M := Lib.hid (T.out.mod.then hw')
  clear A0 hw'
  go_wp2_with fail
  go_ret
  exact ⟨rfl, M.out.to_below⟩

set_option maxHeartbeats 2000000 in
set_option maxRecDepth 100000 in
theorem floors_3fb (x0 x1 : Int) (w : World) (hx0 : -9223372036854775808 ≤ x0 ∧ x0 ≤ 9223372036854775807) (hx1 : -9223372036854775808 ≤ x1 ∧ x1 ≤ 9223372036854775807)
    (N D n r c : Int) (e1 : Rat.makeR x0 x1 = (N, D, true)) (rt : Rat.Rt N D) (e2 : Rat.floorR N D = n) (e3 : Rat.roundR N D = r) (hn1 : -9223372036854775807 ≤ n) (hn2 : n ≤ 9223372036854775807) (e5 : Rat.cmpR n 1 N D = c) (hc : c ≤ 0)
    (hp : n < 4611686018427387904) (hq : n ≤ -4611686018427387904) (hD : D ≠ 1) (hr : r = n + 1) (hr2 : n < 9223372036854775807) (e9 : Rat.addR N D 1 2 = (0, 0, false)) :
    Calls Try.prog 9 #[.agg #[.int .i64 x0, .int .i64 x1]] w fun e w' => e = .returned (.bool true) ∧ Below w.heap.size w w' := by
  have H1 := Lib.hid (fun W => make_any x0 x1 W hx0 hx1)
  have H2 := Lib.hid (fun W => floor_any N D W rt.bN rt.bD)
  have H3 := Lib.hid (fun W => round_any N D W rt.bN rt.bD)
  have H4 := Lib.hid (fun W => make_any n 1 W (by omega) (by omega))
  have H5 := Lib.hid (fun W => cmp_any n 1 N D W (by omega) (by omega) rt.bN rt.bD)
  have H9 := Lib.hid (fun W => add_any N D 1 2 W rt.bN rt.bD (by omega) (by omega))
  rw [e1] at H1
  rw [e2] at H2
  rw [e3] at H3
  rw [Rat.make_whole hn1 hn2] at H4
  rw [e5] at H5
  rw [e9] at H9
  have H6 := Lib.hid (fun W => make_any (n + 1) 1 W (by omega) (by omega))
  rw [Rat.make_whole (by omega) (by omega)] at H6
  clear e1 e2 e3 e5 e9 rt
  subst hr
  have k1 : (D != 1) = true := by simpa using hD
  have k1b : (D == 1) = false := by simpa using hD
  have k2 : (n + 1 == n) = false := by simp; omega
  have k3 : (n + 1 != n + 1) = false := by simp
  have k4 : (n + 1 == n + 1) = true := by simp
  have k5 : IntKind.i64.wrap (n + 1) = n + 1 := IntWalk.i64_in _ (by omega)
  clear hD
  have T := Lib.hid (own1 w #[.int .i64 x0, .int .i64 x1] 40)
  go_enter Try.func9, Try.ntmps9
  go_wp2_with fail
  refine (shown_any _).mono ?_
  rintro e w115 ⟨rfl, m⟩
  have T' := Lib.hid (T.out.call m)
  clear m T 
  have T := T'
  clear T'
  obtain ⟨f0, g0, -, -⟩ := (T.out.at 0 rfl).two
  go_wp2_with fail
  refine (H1.out _).mono ?_
  rintro e w116 ⟨rfl, m⟩
  have T' := Lib.hid ((T.out.call m).alloc #[.int .i64 N, .int .i64 D] 24)
  clear m T f0 g0
  have T := T'
  clear T'
  obtain ⟨f0, g0, -, -⟩ := (T.out.at 1 rfl).two
  go_wp2_with fail
  refine (H2.out _).mono ?_
  rintro e w117 ⟨rfl, m⟩
  have T' := Lib.hid (T.out.call m)
  clear m T f0 g0
  have T := T'
  clear T'
  go_wp2_with fail
  refine (H4.out _).mono ?_
  rintro e w118 ⟨rfl, m⟩
  have T' := Lib.hid ((T.out.call m).alloc #[.int .i64 n, .int .i64 1] 24)
  clear m T 
  have T := T'
  clear T'
  obtain ⟨f0, g0, -, -⟩ := (T.out.at 2 rfl).two
  obtain ⟨f1, g1, -, -⟩ := (T.out.at 1 rfl).two
  go_wp2_with fail
  refine (H5.out _).mono ?_
  rintro e w119 ⟨rfl, m⟩
  have T' := Lib.hid (T.out.call m)
  clear m T f0 g0 f1 g1
  have T := T'
  clear T'
  go_wp2_with fail
  refine (H6.out _).mono ?_
  rintro e w120 ⟨rfl, m⟩
  have T' := Lib.hid ((T.out.call m).alloc #[.int .i64 (n + 1), .int .i64 1] 24)
  clear m T 
  have T := T'
  clear T'
  obtain ⟨f0, g0, -, -⟩ := (T.out.at 1 rfl).two
  go_wp2_with fail
  refine (H9.out _).mono ?_
  rintro e w121 ⟨rfl, m⟩
  have T' := Lib.hid ((T.out.call m).alloc #[.int .i64 0, .int .i64 0] 24)
  clear m T f0 g0
  have T := T'
  clear T'
  go_wp2_with fail
  have A0 := (T.out.at 1 rfl).every
  refine wp_region_mask 8 [true, true, true, true, true, true, true, true] [] (by kernel_rfl) (by kernel_rfl) (by simp) ?_
  simp only [pickM]
  refine steady_go (a' := ?_) (by kernel_rfl) ?_ (fun w' hw' K Q hK => ?_) ?_
  rotate_left 2
  · go_wp2_with fail; exact hK _ (Mod.refl _ _)
  rotate_left
  · rfl
  refine steady_go (a' := ?_) (by kernel_rfl) ?_ (fun w' hw' K Q hK => ?_) ?_
  rotate_left 2
  · go_wp2_with fail; exact hK _ (Mod.refl _ _)
  rotate_left
  · rfl
  refine steady_pass (by kernel_rfl) (by kernel_rfl) ?_
  refine steady_pass (by kernel_rfl) (by kernel_rfl) ?_
  refine steady_pass (by kernel_rfl) (by kernel_rfl) ?_
  refine steady_pass (by kernel_rfl) (by kernel_rfl) ?_
  refine steady_pass (by kernel_rfl) (by kernel_rfl) ?_
  refine steady_go (a' := ?_) (by kernel_rfl) ?_ (fun w' hw' K Q hK => ?_) ?_
  rotate_left 2
  · go_wp2_with fail; exact hK _ (Mod.refl _ _)
  rotate_left
  · rfl
  refine steady_done ?_
  refine lates_end (fun w' hw' _ => ?_)
  simp only [List.drop_succ_cons, List.drop_nil]
  have T' := Lib.hid (T.out.call hw')
  clear A0  hw' T
  have T := T'
  clear T'
  go_wp2_with fail
  have A0 := (T.out.at 1 rfl).every
  refine wp_region_mask 33 [true, true, true, true, true, true, true, true, true, true, true, true, true, true, true, true, true, true, true, true, true, true, true, true, true, true, true, true, true, true, true, true, true] [] (by kernel_rfl) (by kernel_rfl) (by simp) ?_
  simp only [pickM]
  refine steady_go (a' := ?_) (by kernel_rfl) ?_ (fun w' hw' K Q hK => ?_) ?_
  rotate_left 2
  · go_wp2_with fail; exact hK _ (Mod.refl _ _)
  rotate_left
  · rfl
  refine steady_go (a' := ?_) (by kernel_rfl) ?_ (fun w' hw' K Q hK => ?_) ?_
  rotate_left 2
  · go_wp2_with fail; exact hK _ (Mod.refl _ _)
  rotate_left
  · rfl
  refine steady_go (a' := ?_) (by kernel_rfl) ?_ (fun w' hw' K Q hK => ?_) ?_
  rotate_left 2
  · go_wp2_with fail; exact hK _ (Mod.refl _ _)
  rotate_left
  · rfl
  refine steady_go (a' := ?_) (by kernel_rfl) ?_ (fun w' hw' K Q hK => ?_) ?_
  rotate_left 2
  · go_wp2_with fail; exact hK _ (Mod.refl _ _)
  rotate_left
  · rfl
  refine steady_go (a' := ?_) (by kernel_rfl) ?_ (fun w' hw' K Q hK => ?_) ?_
  rotate_left 2
  · go_wp2_with fail; exact hK _ (Mod.refl _ _)
  rotate_left
  · rfl
  refine steady_go (a' := ?_) (by kernel_rfl) ?_ (fun w' hw' K Q hK => ?_) ?_
  rotate_left 2
  · go_wp2_with fail; exact hK _ (Mod.refl _ _)
  rotate_left
  · rfl
  refine steady_pass (by kernel_rfl) (by kernel_rfl) ?_
  refine steady_pass (by kernel_rfl) (by kernel_rfl) ?_
  refine steady_pass (by kernel_rfl) (by kernel_rfl) ?_
  refine steady_pass (by kernel_rfl) (by kernel_rfl) ?_
  refine steady_pass (by kernel_rfl) (by kernel_rfl) ?_
  refine steady_pass (by kernel_rfl) (by kernel_rfl) ?_
  refine steady_pass (by kernel_rfl) (by kernel_rfl) ?_
  refine steady_pass (by kernel_rfl) (by kernel_rfl) ?_
  refine steady_pass (by kernel_rfl) (by kernel_rfl) ?_
  refine steady_pass (by kernel_rfl) (by kernel_rfl) ?_
  refine steady_pass (by kernel_rfl) (by kernel_rfl) ?_
  refine steady_go (a' := ?_) (by kernel_rfl) ?_ (fun w' hw' K Q hK => ?_) ?_
  rotate_left 2
  · go_wp2_with fail; exact hK _ (Mod.refl _ _)
  rotate_left
  · rfl
  refine steady_go (a' := ?_) (by kernel_rfl) ?_ (fun w' hw' K Q hK => ?_) ?_
  rotate_left 2
  · go_wp2_with fail; exact hK _ (Mod.refl _ _)
  rotate_left
  · rfl
  refine steady_go (a' := ?_) (by kernel_rfl) ?_ (fun w' hw' K Q hK => ?_) ?_
  rotate_left 2
  · go_wp2_with fail; exact hK _ (Mod.refl _ _)
  rotate_left
  · rfl
  refine steady_go (a' := ?_) (by kernel_rfl) ?_ (fun w' hw' K Q hK => ?_) ?_
  rotate_left 2
  · go_wp2_with fail; exact hK _ (Mod.refl _ _)
  rotate_left
  · rfl
  refine steady_go (a' := ?_) (by kernel_rfl) ?_ (fun w' hw' K Q hK => ?_) ?_
  rotate_left 2
  · go_wp2_with fail
    refine ((calls_mod H3.out) _ hw').mono ?_
    rintro e w'' ⟨rfl, m''⟩
    go_wp2_with fail
    exact hK _ m''
  rotate_left
  · rfl
  refine steady_go (a' := ?_) (by kernel_rfl) ?_ (fun w' hw' K Q hK => ?_) ?_
  rotate_left 2
  · go_wp2_with fail; exact hK _ (Mod.refl _ _)
  rotate_left
  · rfl
  refine steady_go (a' := ?_) (by kernel_rfl) ?_ (fun w' hw' K Q hK => ?_) ?_
  rotate_left 2
  · go_wp2_with fail; exact hK _ (Mod.refl _ _)
  rotate_left
  · rfl
  refine steady_go (a' := ?_) (by kernel_rfl) ?_ (fun w' hw' K Q hK => ?_) ?_
  rotate_left 2
  · go_wp2_with fail; exact hK _ (Mod.refl _ _)
  rotate_left
  · rfl
  refine steady_go (a' := ?_) (by kernel_rfl) ?_ (fun w' hw' K Q hK => ?_) ?_
  rotate_left 2
  · go_wp2_with fail; exact hK _ (Mod.refl _ _)
  rotate_left
  · rfl
  refine steady_go (a' := ?_) (by kernel_rfl) ?_ (fun w' hw' K Q hK => ?_) ?_
  rotate_left 2
  · go_wp2_with fail
    refine ((calls_mod H3.out) _ hw').mono ?_
    rintro e w'' ⟨rfl, m''⟩
    go_wp2_with fail
    exact hK _ m''
  rotate_left
  · rfl
  refine steady_go (a' := ?_) (by kernel_rfl) ?_ (fun w' hw' K Q hK => ?_) ?_
  rotate_left 2
  · go_wp2_with fail; exact hK _ (Mod.refl _ _)
  rotate_left
  · rfl
  refine steady_go (a' := ?_) (by kernel_rfl) ?_ (fun w' hw' K Q hK => ?_) ?_
  rotate_left 2
  · go_wp2_with fail; exact hK _ (Mod.refl _ _)
  rotate_left
  · rfl
  refine steady_go (a' := ?_) (by kernel_rfl) ?_ (fun w' hw' K Q hK => ?_) ?_
  rotate_left 2
  · go_wp2_with fail; exact hK _ (Mod.refl _ _)
  rotate_left
  · rfl
  refine steady_go (a' := ?_) (by kernel_rfl) ?_ (fun w' hw' K Q hK => ?_) ?_
  rotate_left 2
  · go_wp2_with fail; exact hK _ (Mod.refl _ _)
  rotate_left
  · rfl
  refine steady_go (a' := ?_) (by kernel_rfl) ?_ (fun w' hw' K Q hK => ?_) ?_
  rotate_left 2
  · go_wp2_with fail; exact hK _ (Mod.refl _ _)
  rotate_left
  · rfl
  refine steady_go (a' := ?_) (by kernel_rfl) ?_ (fun w' hw' K Q hK => ?_) ?_
  rotate_left 2
  · go_wp2_with fail; exact hK _ (Mod.refl _ _)
  rotate_left
  · rfl
  refine steady_done ?_
  refine lates_end (fun w' hw' _ => ?_)
  simp only [List.drop_succ_cons, List.drop_nil]
  have M := Lib.hid (T.out.mod.then hw')
  clear A0 hw'
  go_wp2_with fail
  go_ret
  exact ⟨rfl, M.out.to_below⟩

set_option maxHeartbeats 2000000 in
set_option maxRecDepth 100000 in
theorem floors_3fc (x0 x1 : Int) (w : World) (hx0 : -9223372036854775808 ≤ x0 ∧ x0 ≤ 9223372036854775807) (hx1 : -9223372036854775808 ≤ x1 ∧ x1 ≤ 9223372036854775807)
    (N D n r c : Int) (e1 : Rat.makeR x0 x1 = (N, D, true)) (rt : Rat.Rt N D) (e2 : Rat.floorR N D = n) (e3 : Rat.roundR N D = r) (hn1 : -9223372036854775807 ≤ n) (hn2 : n ≤ 9223372036854775807) (e5 : Rat.cmpR n 1 N D = c) (hc : c ≤ 0)
    (hp : n < 4611686018427387904) (hq : n ≤ -4611686018427387904) (hD : D = 1) (hr : r = n) (hN : N = n) (e9 : Rat.addR N D 1 2 = (0, 0, false)) :
    Calls Try.prog 9 #[.agg #[.int .i64 x0, .int .i64 x1]] w fun e w' => e = .returned (.bool true) ∧ Below w.heap.size w w' := by
  have H1 := Lib.hid (fun W => make_any x0 x1 W hx0 hx1)
  have H2 := Lib.hid (fun W => floor_any N D W rt.bN rt.bD)
  have H3 := Lib.hid (fun W => round_any N D W rt.bN rt.bD)
  have H4 := Lib.hid (fun W => make_any n 1 W (by omega) (by omega))
  have H5 := Lib.hid (fun W => cmp_any n 1 N D W (by omega) (by omega) rt.bN rt.bD)
  have H9 := Lib.hid (fun W => add_any N D 1 2 W rt.bN rt.bD (by omega) (by omega))
  rw [e1] at H1
  rw [e2] at H2
  rw [e3] at H3
  rw [Rat.make_whole hn1 hn2] at H4
  rw [e5] at H5
  rw [e9] at H9
  have H6 := Lib.hid (fun W => make_any (n + 1) 1 W (by omega) (by omega))
  rw [Rat.make_whole (by omega) (by omega)] at H6
  clear e1 e2 e3 e5 e9 rt
  subst hr hN hD
  have k2 : (N == N) = true := by simp
  have k3 : (N != N) = false := by simp
  have T := Lib.hid (own1 w #[.int .i64 x0, .int .i64 x1] 40)
  go_enter Try.func9, Try.ntmps9
  go_wp2_with fail
  refine (shown_any _).mono ?_
  rintro e w122 ⟨rfl, m⟩
  have T' := Lib.hid (T.out.call m)
  clear m T 
  have T := T'
  clear T'
  obtain ⟨f0, g0, -, -⟩ := (T.out.at 0 rfl).two
  go_wp2_with fail
  refine (H1.out _).mono ?_
  rintro e w123 ⟨rfl, m⟩
  have T' := Lib.hid ((T.out.call m).alloc #[.int .i64 N, .int .i64 1] 24)
  clear m T f0 g0
  have T := T'
  clear T'
  obtain ⟨f0, g0, -, -⟩ := (T.out.at 1 rfl).two
  go_wp2_with fail
  refine (H2.out _).mono ?_
  rintro e w124 ⟨rfl, m⟩
  have T' := Lib.hid (T.out.call m)
  clear m T f0 g0
  have T := T'
  clear T'
  go_wp2_with fail
  refine (H4.out _).mono ?_
  rintro e w125 ⟨rfl, m⟩
  have T' := Lib.hid ((T.out.call m).alloc #[.int .i64 N, .int .i64 1] 24)
  clear m T 
  have T := T'
  clear T'
  obtain ⟨f0, g0, -, -⟩ := (T.out.at 2 rfl).two
  obtain ⟨f1, g1, -, -⟩ := (T.out.at 1 rfl).two
  go_wp2_with fail
  refine (H5.out _).mono ?_
  rintro e w126 ⟨rfl, m⟩
  have T' := Lib.hid (T.out.call m)
  clear m T f0 g0 f1 g1
  have T := T'
  clear T'
  go_wp2_with fail
  refine (H6.out _).mono ?_
  rintro e w127 ⟨rfl, m⟩
  have T' := Lib.hid ((T.out.call m).alloc #[.int .i64 (N + 1), .int .i64 1] 24)
  clear m T 
  have T := T'
  clear T'
  obtain ⟨f0, g0, -, -⟩ := (T.out.at 1 rfl).two
  go_wp2_with fail
  refine (H9.out _).mono ?_
  rintro e w128 ⟨rfl, m⟩
  have T' := Lib.hid ((T.out.call m).alloc #[.int .i64 0, .int .i64 0] 24)
  clear m T f0 g0
  have T := T'
  clear T'
  go_wp2_with fail
  have A0 := (T.out.at 1 rfl).every
  refine wp_region_mask 8 [true, true, true, true, true, true, true, true] [] (by kernel_rfl) (by kernel_rfl) (by simp) ?_
  simp only [pickM]
  refine steady_go (a' := ?_) (by kernel_rfl) ?_ (fun w' hw' K Q hK => ?_) ?_
  rotate_left 2
  · go_wp2_with fail; exact hK _ (Mod.refl _ _)
  rotate_left
  · rfl
  refine steady_go (a' := ?_) (by kernel_rfl) ?_ (fun w' hw' K Q hK => ?_) ?_
  rotate_left 2
  · go_wp2_with fail; exact hK _ (Mod.refl _ _)
  rotate_left
  · rfl
  refine steady_pass (by kernel_rfl) (by kernel_rfl) ?_
  refine steady_pass (by kernel_rfl) (by kernel_rfl) ?_
  refine steady_pass (by kernel_rfl) (by kernel_rfl) ?_
  refine steady_pass (by kernel_rfl) (by kernel_rfl) ?_
  refine steady_pass (by kernel_rfl) (by kernel_rfl) ?_
  refine steady_go (a' := ?_) (by kernel_rfl) ?_ (fun w' hw' K Q hK => ?_) ?_
  rotate_left 2
  · go_wp2_with fail; exact hK _ (Mod.refl _ _)
  rotate_left
  · rfl
  refine steady_done ?_
  refine lates_end (fun w' hw' _ => ?_)
  simp only [List.drop_succ_cons, List.drop_nil]
  have T' := Lib.hid (T.out.call hw')
  clear A0  hw' T
  have T := T'
  clear T'
  go_wp2_with fail
  have A0 := (T.out.at 1 rfl).every
  refine wp_region_mask 33 [true, true, true, true, true, true, true, true, true, true, true, true, true, true, true, true, true, true, true, true, true, true, true, true, true, true, true, true, true, true, true, true, true] [] (by kernel_rfl) (by kernel_rfl) (by simp) ?_
  simp only [pickM]
  refine steady_go (a' := ?_) (by kernel_rfl) ?_ (fun w' hw' K Q hK => ?_) ?_
  rotate_left 2
  · go_wp2_with fail; exact hK _ (Mod.refl _ _)
  rotate_left
  · rfl
  refine steady_go (a' := ?_) (by kernel_rfl) ?_ (fun w' hw' K Q hK => ?_) ?_
  rotate_left 2
  · go_wp2_with fail; exact hK _ (Mod.refl _ _)
  rotate_left
  · rfl
  refine steady_go (a' := ?_) (by kernel_rfl) ?_ (fun w' hw' K Q hK => ?_) ?_
  rotate_left 2
  · go_wp2_with fail; exact hK _ (Mod.refl _ _)
  rotate_left
  · rfl
  refine steady_go (a' := ?_) (by kernel_rfl) ?_ (fun w' hw' K Q hK => ?_) ?_
  rotate_left 2
  · go_wp2_with fail; exact hK _ (Mod.refl _ _)
  rotate_left
  · rfl
  refine steady_go (a' := ?_) (by kernel_rfl) ?_ (fun w' hw' K Q hK => ?_) ?_
  rotate_left 2
  · go_wp2_with fail; exact hK _ (Mod.refl _ _)
  rotate_left
  · rfl
  refine steady_go (a' := ?_) (by kernel_rfl) ?_ (fun w' hw' K Q hK => ?_) ?_
  rotate_left 2
  · go_wp2_with fail; exact hK _ (Mod.refl _ _)
  rotate_left
  · rfl
  refine steady_go (a' := ?_) (by kernel_rfl) ?_ (fun w' hw' K Q hK => ?_) ?_
  rotate_left 2
  · go_wp2_with fail; exact hK _ (Mod.refl _ _)
  rotate_left
  · rfl
  refine steady_go (a' := ?_) (by kernel_rfl) ?_ (fun w' hw' K Q hK => ?_) ?_
  rotate_left 2
  · go_wp2_with fail; exact hK _ (Mod.refl _ _)
  rotate_left
  · rfl
  refine steady_go (a' := ?_) (by kernel_rfl) ?_ (fun w' hw' K Q hK => ?_) ?_
  rotate_left 2
  · go_wp2_with fail; exact hK _ (Mod.refl _ _)
  rotate_left
  · rfl
  refine steady_go (a' := ?_) (by kernel_rfl) ?_ (fun w' hw' K Q hK => ?_) ?_
  rotate_left 2
  · go_wp2_with fail; exact hK _ (Mod.refl _ _)
  rotate_left
  · rfl
  refine steady_go (a' := ?_) (by kernel_rfl) ?_ (fun w' hw' K Q hK => ?_) ?_
  rotate_left 2
  · go_wp2_with fail; exact hK _ (Mod.refl _ _)
  rotate_left
  · rfl
  refine steady_go (a' := ?_) (by kernel_rfl) ?_ (fun w' hw' K Q hK => ?_) ?_
  rotate_left 2
  · go_wp2_with fail; exact hK _ (Mod.refl _ _)
  rotate_left
  · rfl
  refine steady_go (a' := ?_) (by kernel_rfl) ?_ (fun w' hw' K Q hK => ?_) ?_
  rotate_left 2
  · go_wp2_with fail
    refine ((calls_mod H3.out) _ hw').mono ?_
    rintro e w'' ⟨rfl, m''⟩
    go_wp2_with fail
    exact hK _ m''
  rotate_left
  · rfl
  refine steady_go (a' := ?_) (by kernel_rfl) ?_ (fun w' hw' K Q hK => ?_) ?_
  rotate_left 2
  · go_wp2_with fail; exact hK _ (Mod.refl _ _)
  rotate_left
  · rfl
  refine steady_go (a' := ?_) (by kernel_rfl) ?_ (fun w' hw' K Q hK => ?_) ?_
  rotate_left 2
  · go_wp2_with fail; exact hK _ (Mod.refl _ _)
  rotate_left
  · rfl
  refine steady_go (a' := ?_) (by kernel_rfl) ?_ (fun w' hw' K Q hK => ?_) ?_
  rotate_left 2
  · go_wp2_with fail; exact hK _ (Mod.refl _ _)
  rotate_left
  · rfl
  refine steady_go (a' := ?_) (by kernel_rfl) ?_ (fun w' hw' K Q hK => ?_) ?_
  rotate_left 2
  · go_wp2_with fail; exact hK _ (Mod.refl _ _)
  rotate_left
  · rfl
  refine steady_go (a' := ?_) (by kernel_rfl) ?_ (fun w' hw' K Q hK => ?_) ?_
  rotate_left 2
  · go_wp2_with fail; exact hK _ (Mod.refl _ _)
  rotate_left
  · rfl
  refine steady_go (a' := ?_) (by kernel_rfl) ?_ (fun w' hw' K Q hK => ?_) ?_
  rotate_left 2
  · go_wp2_with fail; exact hK _ (Mod.refl _ _)
  rotate_left
  · rfl
  refine steady_go (a' := ?_) (by kernel_rfl) ?_ (fun w' hw' K Q hK => ?_) ?_
  rotate_left 2
  · go_wp2_with fail; exact hK _ (Mod.refl _ _)
  rotate_left
  · rfl
  refine steady_go (a' := ?_) (by kernel_rfl) ?_ (fun w' hw' K Q hK => ?_) ?_
  rotate_left 2
  · go_wp2_with fail; exact hK _ (Mod.refl _ _)
  rotate_left
  · rfl
  refine steady_go (a' := ?_) (by kernel_rfl) ?_ (fun w' hw' K Q hK => ?_) ?_
  rotate_left 2
  · go_wp2_with fail
    refine ((calls_mod H3.out) _ hw').mono ?_
    rintro e w'' ⟨rfl, m''⟩
    go_wp2_with fail
    exact hK _ m''
  rotate_left
  · rfl
  refine steady_go (a' := ?_) (by kernel_rfl) ?_ (fun w' hw' K Q hK => ?_) ?_
  rotate_left 2
  · go_wp2_with fail; exact hK _ (Mod.refl _ _)
  rotate_left
  · rfl
  refine steady_go (a' := ?_) (by kernel_rfl) ?_ (fun w' hw' K Q hK => ?_) ?_
  rotate_left 2
  · go_wp2_with fail; exact hK _ (Mod.refl _ _)
  rotate_left
  · rfl
  refine steady_go (a' := ?_) (by kernel_rfl) ?_ (fun w' hw' K Q hK => ?_) ?_
  rotate_left 2
  · go_wp2_with fail; exact hK _ (Mod.refl _ _)
  rotate_left
  · rfl
  refine steady_pass (by kernel_rfl) (by kernel_rfl) ?_
  refine steady_pass (by kernel_rfl) (by kernel_rfl) ?_
  refine steady_pass (by kernel_rfl) (by kernel_rfl) ?_
  refine steady_pass (by kernel_rfl) (by kernel_rfl) ?_
  refine steady_pass (by kernel_rfl) (by kernel_rfl) ?_
  refine steady_go (a' := ?_) (by kernel_rfl) ?_ (fun w' hw' K Q hK => ?_) ?_
  rotate_left 2
  · go_wp2_with fail; exact hK _ (Mod.refl _ _)
  rotate_left
  · rfl
  refine steady_go (a' := ?_) (by kernel_rfl) ?_ (fun w' hw' K Q hK => ?_) ?_
  rotate_left 2
  · go_wp2_with fail; exact hK _ (Mod.refl _ _)
  rotate_left
  · rfl
  refine steady_go (a' := ?_) (by kernel_rfl) ?_ (fun w' hw' K Q hK => ?_) ?_
  rotate_left 2
  · go_wp2_with fail; exact hK _ (Mod.refl _ _)
  rotate_left
  · rfl
  refine steady_done ?_
  refine lates_end (fun w' hw' _ => ?_)
  simp only [List.drop_succ_cons, List.drop_nil]
  have M := Lib.hid (T.out.mod.then hw')
  clear A0 hw'
  go_wp2_with fail
  go_ret
  exact ⟨rfl, M.out.to_below⟩

theorem floors_walk (x0 x1 : Int) (w : World) (hx0 : -9223372036854775808 ≤ x0 ∧ x0 ≤ 9223372036854775807) (hx1 : -9223372036854775808 ≤ x1 ∧ x1 ≤ 9223372036854775807) :
    Calls Try.prog 9 #[.agg #[.int .i64 x0, .int .i64 x1]] w fun e w' => e = .returned (.bool true) ∧ Below w.heap.size w w' := by
  rcases Rat.make_cases x0 x1 with ⟨N, D, e1, rt, -, -⟩ | e1
  case inr => exact floors_no x0 x1 w hx0 hx1 e1
  have hD := rt.pos
  have e2 := Rat.floorR_eq rt.right rt.abs rt.leD
  have e3 := Rat.roundR_eq rt.right rt.abs
  obtain ⟨b1, b2⟩ := Rat.floor_bd rt
  have hc := Rat.cmp_le rt
  have hg := Rat.cmp_gt rt
  have hk : (D ≠ 1 ∧ Rat.half N D = N / D) ∨ (D ≠ 1 ∧ Rat.half N D = N / D + 1 ∧ N / D < 9223372036854775807) ∨ (D = 1 ∧ Rat.half N D = N / D ∧ N = N / D) := by
    by_cases h1 : D = 1
    · exact .inr (.inr ⟨h1, by rw [h1, Rat.half_one, Int.ediv_one], by rw [h1, Int.ediv_one]⟩)
    · rcases Rat.half_cases (N := N) hD with h2 | h2
      · exact .inl ⟨h1, h2⟩
      · refine .inr (.inl ⟨h1, h2, ?_⟩)
        rw [Int.ediv_lt_iff_lt_mul hD]
        have := rt.bN.2
        omega
  have hm : (∃ mN mD, Rat.addR N D 1 2 = (mN, mD, true) ∧ Rat.Rt mN mD ∧ Rat.floorR mN mD = Rat.half N D) ∨ Rat.addR N D 1 2 = (0, 0, false) := by
    rcases Rat.add_cases rt Rat.rt_half with ⟨mN, mD, h1, h2, h3⟩ | h1
    · exact .inl ⟨mN, mD, h1, h2, by rw [Rat.more_floor rt h2 h3, e3]⟩
    · exact .inr h1
  generalize N / D = n at *
  generalize Rat.half N D = r at *
  rcases hm with ⟨mN, mD, e9, rm, e7⟩ | e9
  · by_cases hp : n < 4611686018427387904
    · by_cases hq : -4611686018427387904 < n
      · rcases hk with ⟨k1, k2⟩ | ⟨k1, k2, k3⟩ | ⟨k1, k2, k3⟩
        · exact floors_2ta x0 x1 w hx0 hx1 N D n r _ e1 rt e2 e3 b1 b2 rfl hc hp hq (hg (by omega)) k1 k2 mN mD e9 rm e7
        · exact floors_2tb x0 x1 w hx0 hx1 N D n r _ e1 rt e2 e3 b1 b2 rfl hc hp hq (hg (by omega)) k1 k2 k3 mN mD e9 rm e7
        · exact floors_2tc x0 x1 w hx0 hx1 N D n r _ e1 rt e2 e3 b1 b2 rfl hc hp hq (hg (by omega)) k1 k2 k3 mN mD e9 rm e7
      · rcases hk with ⟨k1, k2⟩ | ⟨k1, k2, k3⟩ | ⟨k1, k2, k3⟩
        · exact floors_3ta x0 x1 w hx0 hx1 N D n r _ e1 rt e2 e3 b1 b2 rfl hc hp (by omega) k1 k2 mN mD e9 rm e7
        · exact floors_3tb x0 x1 w hx0 hx1 N D n r _ e1 rt e2 e3 b1 b2 rfl hc hp (by omega) k1 k2 k3 mN mD e9 rm e7
        · exact floors_3tc x0 x1 w hx0 hx1 N D n r _ e1 rt e2 e3 b1 b2 rfl hc hp (by omega) k1 k2 k3 mN mD e9 rm e7
    · rcases hk with ⟨k1, k2⟩ | ⟨k1, k2, k3⟩ | ⟨k1, k2, k3⟩
      · exact floors_1ta x0 x1 w hx0 hx1 N D n r _ e1 rt e2 e3 b1 b2 rfl hc (by omega) k1 k2 mN mD e9 rm e7
      · exact floors_1tb x0 x1 w hx0 hx1 N D n r _ e1 rt e2 e3 b1 b2 rfl hc (by omega) k1 k2 k3 mN mD e9 rm e7
      · exact floors_1tc x0 x1 w hx0 hx1 N D n r _ e1 rt e2 e3 b1 b2 rfl hc (by omega) k1 k2 k3 mN mD e9 rm e7
  · by_cases hp : n < 4611686018427387904
    · by_cases hq : -4611686018427387904 < n
      · rcases hk with ⟨k1, k2⟩ | ⟨k1, k2, k3⟩ | ⟨k1, k2, k3⟩
        · exact floors_2fa x0 x1 w hx0 hx1 N D n r _ e1 rt e2 e3 b1 b2 rfl hc hp hq (hg (by omega)) k1 k2 e9
        · exact floors_2fb x0 x1 w hx0 hx1 N D n r _ e1 rt e2 e3 b1 b2 rfl hc hp hq (hg (by omega)) k1 k2 k3 e9
        · exact floors_2fc x0 x1 w hx0 hx1 N D n r _ e1 rt e2 e3 b1 b2 rfl hc hp hq (hg (by omega)) k1 k2 k3 e9
      · rcases hk with ⟨k1, k2⟩ | ⟨k1, k2, k3⟩ | ⟨k1, k2, k3⟩
        · exact floors_3fa x0 x1 w hx0 hx1 N D n r _ e1 rt e2 e3 b1 b2 rfl hc hp (by omega) k1 k2 e9
        · exact floors_3fb x0 x1 w hx0 hx1 N D n r _ e1 rt e2 e3 b1 b2 rfl hc hp (by omega) k1 k2 k3 e9
        · exact floors_3fc x0 x1 w hx0 hx1 N D n r _ e1 rt e2 e3 b1 b2 rfl hc hp (by omega) k1 k2 k3 e9
    · rcases hk with ⟨k1, k2⟩ | ⟨k1, k2, k3⟩ | ⟨k1, k2, k3⟩
      · exact floors_1fa x0 x1 w hx0 hx1 N D n r _ e1 rt e2 e3 b1 b2 rfl hc (by omega) k1 k2 e9
      · exact floors_1fb x0 x1 w hx0 hx1 N D n r _ e1 rt e2 e3 b1 b2 rfl hc (by omega) k1 k2 k3 e9
      · exact floors_1fc x0 x1 w hx0 hx1 N D n r _ e1 rt e2 e3 b1 b2 rfl hc (by omega) k1 k2 k3 e9
end Go.Proofs.Ytiigcilmpclclaa

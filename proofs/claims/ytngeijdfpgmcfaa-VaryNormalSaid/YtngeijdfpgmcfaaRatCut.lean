/- ratio: nearest, cut. -/
import Derived.Test.YtngeijdfpgmcfaaRatRight
namespace Go.Proofs.Ytngeijdfpgmcfaa
open Go.RowKit

namespace Rat
/-- What cut tells of the number A (below 0, if m) by y, where it grows, if g holds of what is left. -/
def cutR (m : Bool) (A y : Nat) (g : Nat → Bool) : Int × Bool :=
  if A / 18446744073709551616 ≥ y ∨ 9223372036854775808 < A / y then (0, false)
  else if m = true ∧ A / y + (if g (A % y) then 1 else 0) ≤ 9223372036854775808 then (-((A / y + (if g (A % y) then 1 else 0) : Nat) : Int), true)
  else if m = false ∧ A / y + (if g (A % y) then 1 else 0) < 9223372036854775808 then (((A / y + (if g (A % y) then 1 else 0) : Nat) : Int), true)
  else (0, false)
/-- nearest's way. -/
def near (m : Bool) (y r : Nat) : Bool := if m then decide (y - r < r) else decide (y - r ≤ r)
/-- Floor's way. -/
def down (m : Bool) (r : Nat) : Bool := m && decide (0 < r)
/-- The end of cut: the quotient q, with one more or not. -/
def ends (m : Bool) (q : Nat) : Int × Bool :=
  if m = true ∧ q ≤ 9223372036854775808 then (-(q : Int), true) else if m = false ∧ q < 9223372036854775808 then ((q : Int), true) else (0, false)
theorem cutR_ends (m : Bool) (A y : Nat) (g : Nat → Bool) (h1 : A / 18446744073709551616 < y) (h2 : A / y ≤ 9223372036854775808) : cutR m A y g = ends m (A / y + (if g (A % y) then 1 else 0)) := by
  unfold cutR ends
  rw [if_neg (by omega)]
end Rat

set_option maxHeartbeats 400000 in
theorem near1_any (m : Bool) (y r : Nat) (a b : Nat) (w : World) (hr : r ≤ y) (hy : y < 18446744073709551616) (ha : w.cell? ⟨a, 0, none⟩ = some (.bool m)) (hb : w.cell? ⟨b, 0, none⟩ = some (.int .u64 y)) :
    Calls Try.prog 73 #[.int .u64 r, .pointer (some ⟨a, 0, none⟩), .pointer (some ⟨b, 0, none⟩)] w fun e w' => e = .returned (.bool (Rat.near m y r)) ∧ w = w' := by
  cases m with
  | true =>
    have HN : Hid (Rat.near true y r = decide ((y : Int) - r < r)) := by show decide _ = decide _; congr 1; apply propext; omega
    go_enter Try.func73, Try.ntmps73
    go_wp2_with fail
    go_ret
    exact ⟨by rw [HN.out]; rfl, rfl⟩
  | false =>
    have HN : Hid (Rat.near false y r = decide ((y : Int) - r ≤ r)) := by show decide _ = decide _; congr 1; apply propext; omega
    go_enter Try.func73, Try.ntmps73
    go_wp2_with fail
    go_ret
    exact ⟨by rw [HN.out]; rfl, rfl⟩

set_option maxHeartbeats 400000 in
theorem nearest_any (m : Bool) (y : Nat) (w : World) :
    Calls Try.prog 63 #[.bool m, .int .u64 y] w fun e w' => e = .returned (.func (.func 73) #[] #[.pointer (some ⟨w.heap.size, 0, none⟩), .pointer (some ⟨w.heap.size + 1, 0, none⟩)]) ∧
      Blk w' w.heap.size #[.bool m] 4 ∧ Blk w' (w.heap.size + 1) #[.int .u64 y] 91 ∧ Mod [] w w' := by
  have B1 := Lib.hid ((Blk.new w #[.bool m] 4).alloc (.cells #[.int .u64 y] 91))
  have B2 : Hid (Blk ((w.alloc (.cells #[.bool m] 4)).alloc (.cells #[.int .u64 y] 91)) (w.heap.size + 1) #[.int .u64 y] 91) := by
    have := Blk.new (w.alloc (.cells #[.bool m] 4)) #[.int .u64 y] 91
    rw [show (w.alloc (.cells #[.bool m] 4)).heap.size = w.heap.size + 1 by simp] at this
    exact this
  have M := Lib.hid (((Mod.refl [] w).alloc (.cells #[.bool m] 4)).alloc (.cells #[.int .u64 y] 91))
  go_enter Try.func63, Try.ntmps63
  go_wp2_with fail
  go_ret
  exact ⟨rfl, B1.out, B2.out, M.out⟩

set_option maxHeartbeats 2000000 in
theorem cutNear_gen (h l : Nat) (m : Bool) (y q r : Nat) (a b : Nat) (gr : Bool) (w : World) (hh : h < y) (hq : q < 18446744073709551616)
    (HD : Hid (∀ W : World, Calls Try.prog 48 #[.int .u64 h, .int .u64 l, .int .u64 y] W fun e w' => e = .returned (.tuple #[.int .u64 q, .int .u64 r]) ∧ ∃ n, w' = W.drewN n))
    (HG : Hid (∀ W : World, Mod [] w W → Calls Try.prog 73 #[.int .u64 r, .pointer (some ⟨a, 0, none⟩), .pointer (some ⟨b, 0, none⟩)] W fun e w' => e = .returned (.bool gr) ∧ W = w')) (R : Int × Bool) (HR : Hid (R = if 9223372036854775808 < q then (0, false) else Rat.ends m (q + (if gr then 1 else 0)))) :
    Calls Try.prog 62 #[.agg #[.int .u64 h, .int .u64 l, .bool m], .int .u64 y, .func (.func 73) #[] #[.pointer (some ⟨a, 0, none⟩), .pointer (some ⟨b, 0, none⟩)]] w fun e w' =>
      e = .returned (.tuple #[.int .i64 R.1, .bool R.2]) ∧ Mod [] w w' := by
  have M0 := Lib.hid ((Mod.refl [] w).alloc (.cells #[.int .u64 h, .int .u64 l, .bool m] 125))
  have dh : decide (y ≤ h) = false := by simp; omega
  by_cases h9 : 9223372036854775808 < q
  · have d9 : decide ((9223372036854775808 : Int) < q) = true := by simp; omega
    have HE : Hid (R = (0, false)) := by rw [HR.out, if_pos h9]; exact rfl
    clear HR
    go_enter Try.func62, Try.ntmps62
    go_wp2_with fail
    refine (HD.out _).mono ?_
    rintro e w1 ⟨rfl, k, rfl⟩
    go_wp2_with fail
    go_ret2
    rw [HE.out]
    exact ⟨rfl, M0.out.drewN k⟩
  · have d9 : decide ((9223372036854775808 : Int) < q) = false := by simp; omega
    have HR2 := Lib.hid (HR.out.trans (if_neg h9))
    clear HR
    cases m with
    | true =>
      cases gr with
      | true =>
        by_cases hc : (q + 1) ≤ 9223372036854775808
        · have dc : decide (((q : Int) + 1) ≤ 9223372036854775808) = true := by simp; omega
          have HE : Hid (R = (wrap64 (IntKind.u64.wrap (-((q : Int) + 1))), true)) := by
            have hv : wrap64 (IntKind.u64.wrap (-((q : Int) + 1))) = -((q : Int) + 1) := by rw [IntKind.wrap_u64]; unfold wrap64; omega
            rw [hv]
            rw [HR2.out]
            show Rat.ends true (q + 1) = _
            unfold Rat.ends; rw [if_pos ⟨rfl, hc⟩]
            rw [show ((q + 1 : Nat) : Int) = (q : Int) + 1 from by omega]
          clear HR2
          go_enter Try.func62, Try.ntmps62
          go_wp2_with fail
          refine (HD.out _).mono ?_
          rintro e w1 ⟨rfl, k, rfl⟩
          go_wp2_with fail
          refine (HG.out _ (M0.out.drewN k)).mono ?_
          rintro e w1 ⟨rfl, rfl⟩
          go_wp2_with fail
          go_ret2
          rw [HE.out]
          exact ⟨rfl, M0.out.drewN k⟩
        · have dc : decide (((q : Int) + 1) ≤ 9223372036854775808) = false := by simp; omega
          have HE : Hid (R = (0, false)) := by
            rw [HR2.out]
            show Rat.ends true (q + 1) = _
            unfold Rat.ends; rw [if_neg (fun h => hc h.2), if_neg (by simp)]
          clear HR2
          go_enter Try.func62, Try.ntmps62
          go_wp2_with fail
          refine (HD.out _).mono ?_
          rintro e w1 ⟨rfl, k, rfl⟩
          go_wp2_with fail
          refine (HG.out _ (M0.out.drewN k)).mono ?_
          rintro e w1 ⟨rfl, rfl⟩
          go_wp2_with fail
          go_ret2
          rw [HE.out]
          exact ⟨rfl, M0.out.drewN k⟩
      | false =>
        by_cases hc : q ≤ 9223372036854775808
        · have dc : decide ((q : Int) ≤ 9223372036854775808) = true := by simp; omega
          have HE : Hid (R = (wrap64 (IntKind.u64.wrap (-(q : Int))), true)) := by
            have hv : wrap64 (IntKind.u64.wrap (-(q : Int))) = -(q : Int) := by rw [IntKind.wrap_u64]; unfold wrap64; omega
            rw [hv]
            rw [HR2.out]
            show Rat.ends true q = _
            unfold Rat.ends; rw [if_pos ⟨rfl, hc⟩]
          clear HR2
          go_enter Try.func62, Try.ntmps62
          go_wp2_with fail
          refine (HD.out _).mono ?_
          rintro e w1 ⟨rfl, k, rfl⟩
          go_wp2_with fail
          refine (HG.out _ (M0.out.drewN k)).mono ?_
          rintro e w1 ⟨rfl, rfl⟩
          go_wp2_with fail
          go_ret2
          rw [HE.out]
          exact ⟨rfl, M0.out.drewN k⟩
        · exact absurd (by omega) hc
    | false =>
      cases gr with
      | true =>
        by_cases hc : (q + 1) < 9223372036854775808
        · have dc : decide (((q : Int) + 1) < 9223372036854775808) = true := by simp; omega
          have HE : Hid (R = (((q : Int) + 1), true)) := by
            rw [HR2.out]
            show Rat.ends false (q + 1) = _
            unfold Rat.ends; rw [if_neg (by simp), if_pos ⟨rfl, hc⟩]
            rw [show ((q + 1 : Nat) : Int) = (q : Int) + 1 from by omega]
          clear HR2
          go_enter Try.func62, Try.ntmps62
          go_wp2_with fail
          refine (HD.out _).mono ?_
          rintro e w1 ⟨rfl, k, rfl⟩
          go_wp2_with fail
          refine (HG.out _ (M0.out.drewN k)).mono ?_
          rintro e w1 ⟨rfl, rfl⟩
          go_wp2_with fail
          go_ret2
          rw [HE.out]
          exact ⟨rfl, M0.out.drewN k⟩
        · have dc : decide (((q : Int) + 1) < 9223372036854775808) = false := by simp; omega
          have HE : Hid (R = (0, false)) := by
            rw [HR2.out]
            show Rat.ends false (q + 1) = _
            unfold Rat.ends; rw [if_neg (by simp), if_neg (fun h => hc h.2)]
          clear HR2
          go_enter Try.func62, Try.ntmps62
          go_wp2_with fail
          refine (HD.out _).mono ?_
          rintro e w1 ⟨rfl, k, rfl⟩
          go_wp2_with fail
          refine (HG.out _ (M0.out.drewN k)).mono ?_
          rintro e w1 ⟨rfl, rfl⟩
          go_wp2_with fail
          go_ret2
          rw [HE.out]
          exact ⟨rfl, M0.out.drewN k⟩
      | false =>
        by_cases hc : q < 9223372036854775808
        · have dc : decide ((q : Int) < 9223372036854775808) = true := by simp; omega
          have HE : Hid (R = ((q : Int), true)) := by
            rw [HR2.out]
            show Rat.ends false q = _
            unfold Rat.ends; rw [if_neg (by simp), if_pos ⟨rfl, hc⟩]
          clear HR2
          go_enter Try.func62, Try.ntmps62
          go_wp2_with fail
          refine (HD.out _).mono ?_
          rintro e w1 ⟨rfl, k, rfl⟩
          go_wp2_with fail
          refine (HG.out _ (M0.out.drewN k)).mono ?_
          rintro e w1 ⟨rfl, rfl⟩
          go_wp2_with fail
          go_ret2
          rw [HE.out]
          exact ⟨rfl, M0.out.drewN k⟩
        · have dc : decide ((q : Int) < 9223372036854775808) = false := by simp; omega
          have HE : Hid (R = (0, false)) := by
            rw [HR2.out]
            show Rat.ends false q = _
            unfold Rat.ends; rw [if_neg (by simp), if_neg (fun h => hc h.2)]
          clear HR2
          go_enter Try.func62, Try.ntmps62
          go_wp2_with fail
          refine (HD.out _).mono ?_
          rintro e w1 ⟨rfl, k, rfl⟩
          go_wp2_with fail
          refine (HG.out _ (M0.out.drewN k)).mono ?_
          rintro e w1 ⟨rfl, rfl⟩
          go_wp2_with fail
          go_ret2
          rw [HE.out]
          exact ⟨rfl, M0.out.drewN k⟩

set_option maxHeartbeats 400000 in
theorem cut_over (h l : Nat) (m : Bool) (y : Nat) (F : Value) (w : World) (hh : y ≤ h) :
    Calls Try.prog 62 #[.agg #[.int .u64 h, .int .u64 l, .bool m], .int .u64 y, F] w fun e w' => e = .returned (.tuple #[.int .i64 0, .bool false]) ∧ Mod [] w w' := by
  have M0 := Lib.hid ((Mod.refl [] w).alloc (.cells #[.int .u64 h, .int .u64 l, .bool m] 125))
  have dh : decide (y ≤ h) = true := by simp; omega
  go_enter Try.func62, Try.ntmps62
  go_wp2_with fail
  go_ret2
  exact ⟨rfl, M0.out⟩

theorem words (h l A : Nat) (hl : l < 18446744073709551616) (hA : A = h * 18446744073709551616 + l) : A / 18446744073709551616 = h := by omega

theorem cut_near (h l : Nat) (m : Bool) (y a b A : Nat) (w : World) (hl : l < 18446744073709551616) (hA : A = h * 18446744073709551616 + l) (h0 : 0 < y) (hy : y < 18446744073709551616)
    (Ba : Blk w a #[.bool m] 4) (Bb : Blk w b #[.int .u64 y] 91) :
    Calls Try.prog 62 #[.agg #[.int .u64 h, .int .u64 l, .bool m], .int .u64 y, .func (.func 73) #[] #[.pointer (some ⟨a, 0, none⟩), .pointer (some ⟨b, 0, none⟩)]] w fun e w' =>
      e = .returned (.tuple #[.int .i64 (Rat.cutR m A y (Rat.near m y)).1, .bool (Rat.cutR m A y (Rat.near m y)).2]) ∧ Mod [] w w' := by
  have hw := words h l A hl hA
  by_cases hh : y ≤ h
  · rw [show Rat.cutR m A y (Rat.near m y) = (0, false) by unfold Rat.cutR; rw [if_pos (Or.inl (by rw [hw]; exact hh))]]
    exact cut_over h l m y _ w hh
  · have hq : A / y < 18446744073709551616 := by
      rw [Nat.div_lt_iff_lt_mul h0, hA]
      have : (h + 1) * 18446744073709551616 ≤ y * 18446744073709551616 := Nat.mul_le_mul_right _ (by omega)
      rw [Nat.mul_comm 18446744073709551616 y]
      omega
    refine cutNear_gen h l m y (A / y) (A % y) a b (Rat.near m y (A % y)) w (by omega) hq ?_ ?_ _ ?_
    · rw [hA]; exact fun W => div64_any h l y (by omega) hy hl W
    · exact fun W mW => near1_any m y (A % y) a b W (Nat.le_of_lt (Nat.mod_lt _ h0)) hy ((Ba.kept mW (by simp)).cell 0) ((Bb.kept mW (by simp)).cell 0)
    · show _ = _
      by_cases h9 : 9223372036854775808 < A / y
      · rw [if_pos h9]; unfold Rat.cutR; rw [if_pos (Or.inr h9)]
      · rw [if_neg h9, Rat.cutR_ends m A y _ (by rw [hw]; omega) (by omega)]

end Go.Proofs.Ytngeijdfpgmcfaa

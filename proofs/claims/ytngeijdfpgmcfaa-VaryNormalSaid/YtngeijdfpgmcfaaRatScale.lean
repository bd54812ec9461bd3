/- ratio: Scale, Floor, Round. -/
import Derived.Test.YtngeijdfpgmcfaaRatCut
namespace Go.Proofs.Ytngeijdfpgmcfaa
open Go.RowKit

namespace Rat
def scaleR (n a b : Int) : Int × Bool :=
  if b = 0 then (0, false) else cutR (!((!(decide (n < 0) == decide (a < 0))) == decide (b < 0))) (n.natAbs * a.natAbs) b.natAbs (near (!((!(decide (n < 0) == decide (a < 0))) == decide (b < 0))) b.natAbs)
def floorR (N D : Int) : Int := if rightB N D then (cutR (decide (N < 0)) N.natAbs D.natAbs (down (decide (N < 0)))).1 else 0
def roundR (N D : Int) : Int := if rightB N D then (cutR (decide (N < 0)) N.natAbs D.natAbs (near (decide (N < 0)) D.natAbs)).1 else 0
end Rat

theorem times1 (n : Int) (w : World) (h1 : -9223372036854775808 ≤ n) (h2 : n ≤ 9223372036854775807) :
    Calls Try.prog 46 #[.int .i64 n, .int .u64 1] w fun e w' => e = .returned (.agg #[.int .u64 0, .int .u64 (n.natAbs : Int), .bool (decide (n < 0))]) ∧ Mod [] w w' := by
  refine (times_any n 1 w h1 h2 (by omega)).mono fun e w' ⟨he, hm⟩ => ⟨?_, hm⟩
  rw [he, Nat.mul_one, Nat.div_eq_of_lt (by omega), Nat.mod_eq_of_lt (by omega)]
  rfl

theorem cut_near0 (l : Nat) (m : Bool) (y a b : Nat) (w : World) (hl : l < 18446744073709551616) (h0 : 0 < y) (hy : y < 18446744073709551616)
    (Ba : Blk w a #[.bool m] 4) (Bb : Blk w b #[.int .u64 y] 91) :
    Calls Try.prog 62 #[.agg #[.int .u64 0, .int .u64 l, .bool m], .int .u64 y, .func (.func 73) #[] #[.pointer (some ⟨a, 0, none⟩), .pointer (some ⟨b, 0, none⟩)]] w fun e w' =>
      e = .returned (.tuple #[.int .i64 (Rat.cutR m l y (Rat.near m y)).1, .bool (Rat.cutR m l y (Rat.near m y)).2]) ∧ Mod [] w w' :=
  cut_near 0 l m y a b l w hl (by omega) h0 hy Ba Bb

theorem rightB_pos {N D : Int} (h : Rat.rightB N D = true) : 0 < D ∧ N ≠ -9223372036854775808 := by
  unfold Rat.rightB at h; simp at h; exact ⟨h.1, h.2.1⟩

set_option maxHeartbeats 1000000 in
theorem round_any (N D : Int) (w : World) (hn : -9223372036854775808 ≤ N ∧ N ≤ 9223372036854775807) (hd : -9223372036854775808 ≤ D ∧ D ≤ 9223372036854775807) :
    Calls Try.prog 39 #[.agg #[.int .i64 N, .int .i64 D]] w fun e w' => e = .returned (.int .i64 (Rat.roundR N D)) ∧ Mod [] w w' := by
  have M0 := Lib.hid ((Mod.refl [] w).alloc (.cells #[.int .i64 N, .int .i64 D] 51))
  have B0 := Lib.hid (Blk.new w #[.int .i64 N, .int .i64 D] 51)
  have HRi := Lib.hid (fun W => right_any N D W hn hd)
  cases hr : Rat.rightB N D with
  | false =>
    have HF := Lib.hid (show Rat.roundR N D = 0 by unfold Rat.roundR; rw [hr]; rfl)
    rw [hr] at HRi
    clear hr
    go_enter Try.func39, Try.ntmps39
    go_wp2_with fail
    refine (HRi.out _).mono ?_
    rintro e w1 ⟨rfl, m1⟩
    go_wp2_with fail
    go_ret
    exact ⟨by rw [HF.out]; rfl, M0.out.then m1⟩
  | true =>
    obtain ⟨hD0, hN0⟩ := rightB_pos hr
    have HF := Lib.hid (show Rat.roundR N D = (Rat.cutR (decide (N < 0)) N.natAbs D.natAbs (Rat.near (decide (N < 0)) D.natAbs)).1 by unfold Rat.roundR; rw [hr]; rfl)
    rw [hr] at HRi
    have HT := Lib.hid (fun W => times1 N W hn.1 hn.2)
    have hDw : IntKind.u64.wrap D = (D.natAbs : Int) := by rw [IntKind.wrap_u64]; omega
    have hy0 : 0 < D.natAbs := by omega
    have hy1 : D.natAbs < 18446744073709551616 := by omega
    have hl1 : N.natAbs < 18446744073709551616 := by omega
    clear hr hN0
    generalize D.natAbs = y at *
    generalize N.natAbs = x at *
    generalize decide (N < 0) = mm at *
    go_enter Try.func39, Try.ntmps39
    go_wp2_with fail
    refine (HRi.out _).mono ?_
    rintro e w1 ⟨rfl, m1⟩
    have M1 := Lib.hid (M0.out.then m1)
    have B1 := Lib.hid (B0.out.kept m1 (by simp))
    obtain ⟨n0, n1, -, -⟩ := B1.out.two
    clear m1 M0 B0
    go_wp2_with fail
    refine (HT.out _).mono ?_
    rintro e w2 ⟨rfl, m2⟩
    have M2 := Lib.hid (M1.out.then m2)
    have B2 := Lib.hid (B1.out.kept m2 (by simp))
    clear n0 n1 m2 M1 B1
    obtain ⟨n0, n1, -, -⟩ := B2.out.two
    have M3 := Lib.hid (M2.out.alloc (.cells #[.int .u64 0, .int .u64 x, .bool mm] 125))
    have B3 := Lib.hid (Blk.new w2 #[.int .u64 0, .int .u64 x, .bool mm] 125)
    have hlt := B2.out.lt
    go_wp2_with fail
    have BK := B2.out.alloc (.cells #[.int .u64 0, .int .u64 x, .bool mm] 125)
    generalize w2.alloc (.cells #[.int .u64 0, .int .u64 x, .bool mm] 125) = W at *
    have BB : Hid (Blk W w.heap.size #[.int .i64 N, .int .i64 D] 51) := BK
    obtain ⟨c0, c1, c2, -, -, -⟩ := B3.out.three
    obtain ⟨e0, e1, -, -⟩ := BB.out.two
    clear n0 n1
    generalize w2.heap.size = bs at *
    generalize w.heap.size = br at *
    go_region_held3 (fun w' => w'.cell? ⟨bs, 0, none⟩ = some (.int .u64 0) ∧ w'.cell? ⟨bs, 1, none⟩ = some (.int .u64 x) ∧ w'.cell? ⟨bs, 2, none⟩ = some (.bool mm) ∧ w'.cell? ⟨br, 1, none⟩ = some (.int .i64 D)) (first | exact ⟨c0, c1, c2, e1⟩ | exact ⟨(B3.out.drew.kept m3 (by simp)).cell 0, (B3.out.drew.kept m3 (by simp)).cell 1, (B3.out.drew.kept m3 (by simp)).cell 2, (BB.out.drew.kept m3 (by simp)).cell 1⟩ | exact ⟨((B3.out.drew.kept m3 (by simp)).kept m4 (by simp)).cell 0, ((B3.out.drew.kept m3 (by simp)).kept m4 (by simp)).cell 1, ((B3.out.drew.kept m3 (by simp)).kept m4 (by simp)).cell 2, ((BB.out.drew.kept m3 (by simp)).kept m4 (by simp)).cell 1⟩) (first | (go_at_call 63; refine (nearest_any mm y _).mono ?_; rintro e w3 ⟨rfl, ba, bb, m3⟩) | (go_at_call 62; refine (cut_near0 x mm y _ _ _ hl1 hy0 hy1 ba bb).mono ?_; rintro e w4 ⟨rfl, m4⟩))
    have M4 := Lib.hid ((M3.out.drew.then m3).then m4)
    clear ba bb m3 m4
    generalize Rat.cutR mm x y (Rat.near mm y) = R at *
    go_wp2_with fail
    go_ret
    exact ⟨by rw [HF.out]; rfl, M4.out⟩
end Go.Proofs.Ytngeijdfpgmcfaa

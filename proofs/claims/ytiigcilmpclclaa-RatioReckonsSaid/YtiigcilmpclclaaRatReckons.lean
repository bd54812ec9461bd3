/- RatioReckons: the walk. Printed by gen_reckons.py. -/
import Derived.Test.YtiigcilmpclclaaRatShown
import Derived.Test.YtiigcilmpclclaaBigDo
import Derived.Deep.LoopGhost
namespace Go.Proofs.Ytiigcilmpclclaa
open Go.RowKit
set_option linter.unusedVariables false

theorem do_add (a b c d : Int) : Rat.addR a b c d = Rat.doR 0 a b c d := by
  unfold Rat.doR
  split
  · rename_i h
    obtain ⟨hb, _, _⟩ := (Rat.rightB_iff _ _).1 h.1
    obtain ⟨hd, _, _⟩ := (Rat.rightB_iff _ _).1 h.2
    have hbd : b * d ≠ 0 := by have := Int.mul_pos hb hd; omega
    rw [Rat.addR_tell h.1 h.2, show Rat.doN 0 a b c d = a * d + c * b from rfl, show Rat.doD 0 a b c d = b * d from rfl]
    unfold Rat.told
    rw [if_neg hbd]
  · rename_i h
    unfold Rat.addR
    rw [if_neg (fun h' => h ⟨h'.1, h'.2.1⟩)]
theorem do_sub (a b c d : Int) (hc : c ≤ 9223372036854775807) : Rat.subR a b c d = Rat.doR 1 a b c d := by
  unfold Rat.doR
  split
  · rename_i h
    obtain ⟨hb, _, _⟩ := (Rat.rightB_iff _ _).1 h.1
    obtain ⟨hd, _, _⟩ := (Rat.rightB_iff _ _).1 h.2
    have hbd : b * d ≠ 0 := by have := Int.mul_pos hb hd; omega
    rw [Rat.subR_tell h.1 h.2 hc, show Rat.doN 1 a b c d = a * d + -(c * b) from rfl, show Rat.doD 1 a b c d = b * d from rfl, Int.sub_eq_add_neg]
    unfold Rat.told
    rw [if_neg hbd]
  · rename_i h
    unfold Rat.subR
    split
    · rename_i h2
      unfold Rat.addR
      rw [if_neg (fun h' => h ⟨h'.1, h2⟩)]
    · rfl
theorem do_mul (a b c d : Int) : Rat.mulR a b c d = Rat.doR 2 a b c d := by
  unfold Rat.doR
  split
  · rename_i h
    obtain ⟨hb, _, _⟩ := (Rat.rightB_iff _ _).1 h.1
    obtain ⟨hd, _, _⟩ := (Rat.rightB_iff _ _).1 h.2
    have hbd : b * d ≠ 0 := by have := Int.mul_pos hb hd; omega
    rw [Rat.mulR_tell h.1 h.2, show Rat.doN 2 a b c d = a * c from rfl, show Rat.doD 2 a b c d = b * d from rfl]
    unfold Rat.told
    rw [if_neg hbd]
  · rename_i h
    unfold Rat.mulR
    rw [if_neg h]
theorem do_div (a b c d : Int) (hd : d ≤ 9223372036854775807) : Rat.divR a b c d = Rat.doR 3 a b c d := by
  unfold Rat.doR
  split
  · rename_i h
    obtain ⟨hb, _, _⟩ := (Rat.rightB_iff _ _).1 h.1
    rw [show Rat.doN 3 a b c d = a * d from rfl, show Rat.doD 3 a b c d = b * c from rfl]
    unfold Rat.told
    by_cases h0 : c = 0
    · rw [if_pos (show b * c = 0 by rw [h0, Int.mul_zero])]
      unfold Rat.divR
      rw [if_neg (fun h' => h'.2 h0)]
    · rw [Rat.divR_tell h.1 h.2 h0 hd, if_neg (Int.mul_ne_zero (by omega) h0)]
  · rename_i h
    unfold Rat.divR
    split
    · rename_i h2
      have h3 : ∀ x y, Rat.mulR a b x y = (0, 0, false) := fun x y => by
        unfold Rat.mulR
        rw [if_neg (fun h' => h ⟨h'.1, h2.1⟩)]
      split <;> exact h3 _ _
    · rfl

set_option maxHeartbeats 8000000 in
theorem reckons_walk (a b c d : Int) (w : World) (ha : -9223372036854775808 ≤ a ∧ a ≤ 9223372036854775807) (hb : -9223372036854775808 ≤ b ∧ b ≤ 9223372036854775807)
    (hc : -9223372036854775808 ≤ c ∧ c ≤ 9223372036854775807) (hd : -9223372036854775808 ≤ d ∧ d ≤ 9223372036854775807) :
    Calls Try.prog 11 #[.agg #[.int .i64 a, .int .i64 b], .agg #[.int .i64 c, .int .i64 d]] w fun e w' => e = .returned (.bool true) ∧ Below w.heap.size w w' := by
  have T := Lib.hid (own2 w #[.int .i64 a, .int .i64 b] 24 #[.int .i64 c, .int .i64 d] 24)
  have X0 := Lib.hid (fun W => add_any a b c d W ha hb hc hd)
  have Y0 := Lib.hid (fun W => doRef_any 0 a b c d W (by omega) ha hb hc hd)
  rw [do_add a b c d] at X0
  generalize Rat.doR 0 a b c d = r0 at X0 Y0
  obtain ⟨ra0, rb0, rc0⟩ := r0
  unfold toldV at Y0
  have X1 := Lib.hid (fun W => sub_any a b c d W ha hb hc hd)
  have Y1 := Lib.hid (fun W => doRef_any 1 a b c d W (by omega) ha hb hc hd)
  rw [do_sub a b c d hc.2] at X1
  generalize Rat.doR 1 a b c d = r1 at X1 Y1
  obtain ⟨ra1, rb1, rc1⟩ := r1
  unfold toldV at Y1
  have X2 := Lib.hid (fun W => mul_any a b c d W ha hb hc hd)
  have Y2 := Lib.hid (fun W => doRef_any 2 a b c d W (by omega) ha hb hc hd)
  rw [do_mul a b c d] at X2
  generalize Rat.doR 2 a b c d = r2 at X2 Y2
  obtain ⟨ra2, rb2, rc2⟩ := r2
  unfold toldV at Y2
  have X3 := Lib.hid (fun W => div_any a b c d W ha hb hc hd)
  have Y3 := Lib.hid (fun W => doRef_any 3 a b c d W (by omega) ha hb hc hd)
  rw [do_div a b c d hd.2] at X3
  generalize Rat.doR 3 a b c d = r3 at X3 Y3
  obtain ⟨ra3, rb3, rc3⟩ := r3
  unfold toldV at Y3
  clear ha hb hc hd
  go_enter Try.func11, Try.ntmps11
  go_wp2_with fail
  refine (shown_any _).mono ?_
  rintro e w1 ⟨rfl, m1⟩
  have T1 := Lib.hid (T.out.call m1)
  clear m1 T
  go_wp2_with fail
  go_loopg [6] 4 (fun gk i wr => ∃ k : Nat, k + gk = 4 ∧ i = .int .i64 (k : Int) ∧ Hid (Own w wr [(w.heap.size, #[.int .i64 a, .int .i64 b], 24), (w.heap.size + 1, #[.int .i64 c, .int .i64 d], 24)]))
  case atStart => exact ⟨0, rfl, rfl, T1.out⟩
  case round =>
    obtain ⟨k, hk, rfl, HT⟩ := hrel
    clear T1
    have T := HT
    clear HT
    rcases (show k = 0 ∨ k = 1 ∨ k = 2 ∨ k = 3 ∨ k = 4 by omega) with rfl | rfl | rfl | rfl | rfl
    · have HX := X0
      have HY := Y0
      clear X0 X1 X2 X3 Y0 Y1 Y2 Y3
      have T2 := Lib.hid (T.out.alloc #[.int .i64 0, .int .i64 0] 24)
      clear T
      go_upto_region 9 with fail
      generalize wr.alloc (.cells #[.int .i64 0, .int .i64 0] 24) = W2 at *
      generalize wr.heap.size = b7 at *
      obtain ⟨p0, p1, -, -⟩ := (T2.out.at 0 rfl).two
      obtain ⟨q0, q1, -, -⟩ := (T2.out.at 1 rfl).two
      go_wp2_with fail
      refine (HX.out _).mono ?_
      rintro e w3 ⟨rfl, m3⟩
      have T3 := Lib.hid (T2.out.call m3)
      have T4 := Lib.hid ((T3.out.set 2 rfl 0 (.int .i64 ra0)).set 2 rfl 1 (.int .i64 rb0))
      clear m3 p0 p1 q0 q1 T2 HX
      obtain ⟨p0, p1, z0, z1⟩ := (T3.out.at 2 rfl).two
      go_upto_region 16 with fail
      generalize (w3.setCell ⟨b7, 0, none⟩ (.int .i64 ra0)).setCell ⟨b7, 1, none⟩ (.int .i64 rb0) = W4 at *
      clear p0 p1 z0 z1 T3
      obtain ⟨p0, p1, -, -⟩ := (T4.out.at 0 rfl).two
      obtain ⟨q0, q1, -, -⟩ := (T4.out.at 1 rfl).two
      go_wp2_with fail
      refine (HY.out _).mono ?_
      rintro e w5 ⟨rfl, m5⟩
      have T5 := Lib.hid ((T4.out.call m5).alloc #[.int .i64 ra0, .int .i64 rb0] 24)
      clear m5 p0 p1 q0 q1 T4 HY
      go_upto_region 17 with fail
      generalize w5.alloc (.cells #[.int .i64 ra0, .int .i64 rb0] 24) = W5 at *
      generalize w5.heap.size = b9 at *
      obtain ⟨p0, p1, -, -⟩ := (T5.out.at 2 rfl).two
      obtain ⟨q0, q1, -, -⟩ := (T5.out.at 3 rfl).two
      go_wp2_with fail
      go_roundg (4 - (0 + 1))
      case measure => omega
      case rel => exact ⟨0 + 1, by omega, rfl, Own.left (l' := [(b7, #[.int .i64 ra0, .int .i64 rb0], 24), (b9, #[.int .i64 ra0, .int .i64 rb0], 24)]) T5.out⟩
    · have HX := X1
      have HY := Y1
      clear X0 X1 X2 X3 Y0 Y1 Y2 Y3
      have T2 := Lib.hid (T.out.alloc #[.int .i64 0, .int .i64 0] 24)
      clear T
      go_upto_region 11 with fail
      generalize wr.alloc (.cells #[.int .i64 0, .int .i64 0] 24) = W2 at *
      generalize wr.heap.size = b7 at *
      obtain ⟨p0, p1, -, -⟩ := (T2.out.at 0 rfl).two
      obtain ⟨q0, q1, -, -⟩ := (T2.out.at 1 rfl).two
      go_wp2_with fail
      refine (HX.out _).mono ?_
      rintro e w3 ⟨rfl, m3⟩
      have T3 := Lib.hid (T2.out.call m3)
      have T4 := Lib.hid ((T3.out.set 2 rfl 0 (.int .i64 ra1)).set 2 rfl 1 (.int .i64 rb1))
      clear m3 p0 p1 q0 q1 T2 HX
      obtain ⟨p0, p1, z0, z1⟩ := (T3.out.at 2 rfl).two
      go_upto_region 16 with fail
      generalize (w3.setCell ⟨b7, 0, none⟩ (.int .i64 ra1)).setCell ⟨b7, 1, none⟩ (.int .i64 rb1) = W4 at *
      clear p0 p1 z0 z1 T3
      obtain ⟨p0, p1, -, -⟩ := (T4.out.at 0 rfl).two
      obtain ⟨q0, q1, -, -⟩ := (T4.out.at 1 rfl).two
      go_wp2_with fail
      refine (HY.out _).mono ?_
      rintro e w5 ⟨rfl, m5⟩
      have T5 := Lib.hid ((T4.out.call m5).alloc #[.int .i64 ra1, .int .i64 rb1] 24)
      clear m5 p0 p1 q0 q1 T4 HY
      go_upto_region 17 with fail
      generalize w5.alloc (.cells #[.int .i64 ra1, .int .i64 rb1] 24) = W5 at *
      generalize w5.heap.size = b9 at *
      obtain ⟨p0, p1, -, -⟩ := (T5.out.at 2 rfl).two
      obtain ⟨q0, q1, -, -⟩ := (T5.out.at 3 rfl).two
      go_wp2_with fail
      go_roundg (4 - (1 + 1))
      case measure => omega
      case rel => exact ⟨1 + 1, by omega, rfl, Own.left (l' := [(b7, #[.int .i64 ra1, .int .i64 rb1], 24), (b9, #[.int .i64 ra1, .int .i64 rb1], 24)]) T5.out⟩
    · have HX := X2
      have HY := Y2
      clear X0 X1 X2 X3 Y0 Y1 Y2 Y3
      have T2 := Lib.hid (T.out.alloc #[.int .i64 0, .int .i64 0] 24)
      clear T
      go_upto_region 13 with fail
      generalize wr.alloc (.cells #[.int .i64 0, .int .i64 0] 24) = W2 at *
      generalize wr.heap.size = b7 at *
      obtain ⟨p0, p1, -, -⟩ := (T2.out.at 0 rfl).two
      obtain ⟨q0, q1, -, -⟩ := (T2.out.at 1 rfl).two
      go_wp2_with fail
      refine (HX.out _).mono ?_
      rintro e w3 ⟨rfl, m3⟩
      have T3 := Lib.hid (T2.out.call m3)
      have T4 := Lib.hid ((T3.out.set 2 rfl 0 (.int .i64 ra2)).set 2 rfl 1 (.int .i64 rb2))
      clear m3 p0 p1 q0 q1 T2 HX
      obtain ⟨p0, p1, z0, z1⟩ := (T3.out.at 2 rfl).two
      go_upto_region 16 with fail
      generalize (w3.setCell ⟨b7, 0, none⟩ (.int .i64 ra2)).setCell ⟨b7, 1, none⟩ (.int .i64 rb2) = W4 at *
      clear p0 p1 z0 z1 T3
      obtain ⟨p0, p1, -, -⟩ := (T4.out.at 0 rfl).two
      obtain ⟨q0, q1, -, -⟩ := (T4.out.at 1 rfl).two
      go_wp2_with fail
      refine (HY.out _).mono ?_
      rintro e w5 ⟨rfl, m5⟩
      have T5 := Lib.hid ((T4.out.call m5).alloc #[.int .i64 ra2, .int .i64 rb2] 24)
      clear m5 p0 p1 q0 q1 T4 HY
      go_upto_region 17 with fail
      generalize w5.alloc (.cells #[.int .i64 ra2, .int .i64 rb2] 24) = W5 at *
      generalize w5.heap.size = b9 at *
      obtain ⟨p0, p1, -, -⟩ := (T5.out.at 2 rfl).two
      obtain ⟨q0, q1, -, -⟩ := (T5.out.at 3 rfl).two
      go_wp2_with fail
      go_roundg (4 - (2 + 1))
      case measure => omega
      case rel => exact ⟨2 + 1, by omega, rfl, Own.left (l' := [(b7, #[.int .i64 ra2, .int .i64 rb2], 24), (b9, #[.int .i64 ra2, .int .i64 rb2], 24)]) T5.out⟩
    · have HX := X3
      have HY := Y3
      clear X0 X1 X2 X3 Y0 Y1 Y2 Y3
      have T2 := Lib.hid (T.out.alloc #[.int .i64 0, .int .i64 0] 24)
      clear T
      go_upto_region 15 with fail
      generalize wr.alloc (.cells #[.int .i64 0, .int .i64 0] 24) = W2 at *
      generalize wr.heap.size = b7 at *
      obtain ⟨p0, p1, -, -⟩ := (T2.out.at 0 rfl).two
      obtain ⟨q0, q1, -, -⟩ := (T2.out.at 1 rfl).two
      go_wp2_with fail
      refine (HX.out _).mono ?_
      rintro e w3 ⟨rfl, m3⟩
      have T3 := Lib.hid (T2.out.call m3)
      have T4 := Lib.hid ((T3.out.set 2 rfl 0 (.int .i64 ra3)).set 2 rfl 1 (.int .i64 rb3))
      clear m3 p0 p1 q0 q1 T2 HX
      obtain ⟨p0, p1, z0, z1⟩ := (T3.out.at 2 rfl).two
      go_upto_region 16 with fail
      generalize (w3.setCell ⟨b7, 0, none⟩ (.int .i64 ra3)).setCell ⟨b7, 1, none⟩ (.int .i64 rb3) = W4 at *
      clear p0 p1 z0 z1 T3
      obtain ⟨p0, p1, -, -⟩ := (T4.out.at 0 rfl).two
      obtain ⟨q0, q1, -, -⟩ := (T4.out.at 1 rfl).two
      go_wp2_with fail
      refine (HY.out _).mono ?_
      rintro e w5 ⟨rfl, m5⟩
      have T5 := Lib.hid ((T4.out.call m5).alloc #[.int .i64 ra3, .int .i64 rb3] 24)
      clear m5 p0 p1 q0 q1 T4 HY
      go_upto_region 17 with fail
      generalize w5.alloc (.cells #[.int .i64 ra3, .int .i64 rb3] 24) = W5 at *
      generalize w5.heap.size = b9 at *
      obtain ⟨p0, p1, -, -⟩ := (T5.out.at 2 rfl).two
      obtain ⟨q0, q1, -, -⟩ := (T5.out.at 3 rfl).two
      go_wp2_with fail
      go_roundg (4 - (3 + 1))
      case measure => omega
      case rel => exact ⟨3 + 1, by omega, rfl, Own.left (l' := [(b7, #[.int .i64 ra3, .int .i64 rb3], 24), (b9, #[.int .i64 ra3, .int .i64 rb3], 24)]) T5.out⟩
    · clear X0 X1 X2 X3 Y0 Y1 Y2 Y3
      go_wp2_with fail
      go_ret
      exact ⟨rfl, T.out.mod.to_below⟩
end Go.Proofs.Ytiigcilmpclclaa

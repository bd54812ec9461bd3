/-
  math/bits: Mul64, Add64, Sub64, Len64, LeadingZeros64 over this program.
  Plain: a number of two words by one of one word, in halves of words (what Div64 does). No program here.
  math/bits.Div64.
-/
import Derived.Test.YtaloembfekdkoaaRows
import Derived.WalkKit
import Derived.WalkSpells
import Derived.WalkLawsBesides
import Derived.Lib.Hide
import Derived.Lib.Mul64
import Derived.Laws.Bits64b
import Derived.Laws.MathBits
import Derived.Shelf.Spec.BitsCarry
import Derived.Shelf.Small.Bits
import Derived.Lib.BitFns
import Derived.Deep.QuietTactic
import Derived.BigQuiet
import Derived.Deep.DeepCutAuto
import Derived.Deep.CutBlock

namespace Go.Proofs.Ytaloembfekdkoaa
open Go.RowKit
theorem add64_run (x y c : Nat) (hc : c ≤ 1) (w : World) :
    (callFunc 65 #[.int .u64 x, .int .u64 y, .int .u64 c]).run Try.prog w =
      .ok (.value (.tuple #[.int .u64 (((x + y + c) % 18446744073709551616 : Nat) : Int), .int .u64 (((x + y + c) / 18446744073709551616 : Nat) : Int)])) w := by
  rw [run_callFunc_extern Try.func65 (by kernel_rfl) (by kernel_rfl) (by kernel_rfl) (e := add64Entry) (by kernel_rfl), run_add64 x y c (by omega) (by omega) (by omega) (by omega)]
  simp only [Result.andThen]
  congr 5 <;> omega
theorem sub64_run (x y b : Nat) (hb : b ≤ 1) (w : World) :
    (callFunc 66 #[.int .u64 x, .int .u64 y, .int .u64 b]).run Try.prog w =
      .ok (.value (.tuple #[.int .u64 (((x + 18446744073709551616 - y - b) % 18446744073709551616 : Nat) : Int), .int .u64 ((if x < y + b then 1 else 0 : Nat) : Int)])) w := by
  rw [run_callFunc_extern Try.func66 (by kernel_rfl) (by kernel_rfl) (by kernel_rfl) (e := sub64Entry) (by kernel_rfl), run_sub64 x y b hb]
  rfl
/- The kit's laying of its own contract of LeadingZeros64 at this program (written by the kit's lay-plain). -/
def lays134_ren : Go.Shelf.Ren := ⟨fun | 134 => 63 | 129 => 67 | n => n, fun | 53 => 128 | 3 => 3 | 4 => 4 | 46 => 151 | 5 => 5 | 9 => 9 | n => n, fun | n => n⟩
theorem lays134 : Go.Proofs.Lays.n134 Try.prog lays134_ren := {
  mixed := by kernel_rfl
  f129 := Try.func67.trans (congrArg some (by kernel_rfl))
  f134 := Try.func63.trans (congrArg some (by kernel_rfl))
  t3 := Try.underlying3
  a3 := Try.isAgg3
  z3 := Try.sizeOf3
  v3 := Try.zeroValue3
  t4 := Try.underlying4
  a4 := Try.isAgg4
  z4 := Try.sizeOf4
  v4 := Try.zeroValue4
  t5 := Try.underlying5
  a5 := Try.isAgg5
  z5 := Try.sizeOf5
  v5 := Try.zeroValue5
  t9 := Try.underlying9
  a9 := Try.isAgg9
  z9 := Try.sizeOf9
  v9 := Try.zeroValue9
  t46 := Try.underlying151
  a46 := Try.isAgg151
  z46 := Try.sizeOf151
  v46 := Try.zeroValue151
  t53 := Try.underlying128
  a53 := Try.isAgg128
  z53 := Try.sizeOf128
  v53 := Try.zeroValue128 }
theorem lz64_any (x : Nat) (hx : x < 18446744073709551616) (w : World) :
    Calls Try.prog 63 #[.int .u64 x] w fun e w' => e = .returned (.int .i64 (64 - (Lib.bitLen x : Int))) ∧ w = w' :=
  (Any.bits_LeadingZeros64 lays134 x w (by omega) (by omega)).mono fun _ _ ⟨he, hw⟩ => ⟨by rw [he, Int.toNat_natCast], hw.symm⟩
namespace Bits
theorem maskN (a : Nat) (ha : a < 18446744073709551616) : bits .and .u64 (a : Int) 4294967295 = ((a % 4294967296 : Nat) : Int) := by
  have h := bits_and_u64_nat a 4294967295 ha (by omega)
  have e : a &&& 4294967295 = a % 4294967296 := Nat.and_two_pow_sub_one_eq_mod a 32
  rw [e] at h
  exact h
theorem divN (a : Nat) : (a : Int) / 4294967296 = ((a / 4294967296 : Nat) : Int) := by omega
theorem mulN (a b : Nat) : (a : Int) * (b : Int) = ((a * b : Nat) : Int) := (Int.natCast_mul a b).symm
theorem addN (a b : Nat) : (a : Int) + (b : Int) = ((a + b : Nat) : Int) := (Int.natCast_add a b).symm
theorem wrapN (a : Nat) (ha : a < 18446744073709551616) : IntKind.u64.wrap (a : Int) = (a : Int) := by rw [IntKind.wrap_u64]; omega
theorem wrapM (a : Nat) : IntKind.u64.wrap (a : Int) = ((a % 18446744073709551616 : Nat) : Int) := by rw [IntKind.wrap_u64]; omega
end Bits
set_option maxHeartbeats 1000000 in
theorem mul64_any (x y : Nat) (hx : x < 18446744073709551616) (hy : y < 18446744073709551616) (w : World) :
    Calls Try.prog 64 #[.int .u64 x, .int .u64 y] w fun e w' => e = .returned (.tuple #[.int .u64 ((x * y / 18446744073709551616 : Nat) : Int), .int .u64 ((x * y % 18446744073709551616 : Nat) : Int)]) ∧ w = w' := by
  obtain ⟨bd, bt, bw, hhi⟩ := Lib.mul64_hi x y hx hy
  have ba := Lib.half_mul_le (a := x / 4294967296) (b := y / 4294967296) (by omega) (by omega)
  have bb := Lib.half_mul_le (a := x / 4294967296) (b := y % 4294967296) (by omega) (by omega)
  have bc := Lib.half_mul_le (a := x % 4294967296) (b := y / 4294967296) (by omega) (by omega)
  have ba' : x / 4294967296 * (y / 4294967296) < 18446744073709551616 := by omega
  have bb' : x / 4294967296 * (y % 4294967296) < 18446744073709551616 := by omega
  have bc' : x % 4294967296 * (y / 4294967296) < 18446744073709551616 := by omega
  have bh1 : x / 4294967296 * (y / 4294967296) + (x / 4294967296 * (y % 4294967296) + x % 4294967296 * (y % 4294967296) / 4294967296) / 4294967296 < 18446744073709551616 := by omega
  have bh : x / 4294967296 * (y / 4294967296) + (x / 4294967296 * (y % 4294967296) + x % 4294967296 * (y % 4294967296) / 4294967296) / 4294967296 + ((x / 4294967296 * (y % 4294967296) + x % 4294967296 * (y % 4294967296) / 4294967296) % 4294967296 + x % 4294967296 * (y / 4294967296)) / 4294967296 < 18446744073709551616 := by
    rw [hhi]
    have : x * y < 18446744073709551616 * 18446744073709551616 := Nat.mul_lt_mul'' hx hy
    exact Nat.div_lt_of_lt_mul this
  have BD := Lib.hid bd
  have BT := Lib.hid bt
  have BW := Lib.hid bw
  have HH := Lib.hid hhi
  have BA := Lib.hid ba'
  have BB := Lib.hid bb'
  have BC := Lib.hid bc'
  have BH1 := Lib.hid bh1
  have BH := Lib.hid bh
  clear bd bt bw hhi ba bb bc ba' bb' bc' bh1 bh
  go_enter Try.func64, Try.ntmps64
  go_wp2
  simp only [Bits.maskN x hx, Bits.maskN y hy, Bits.divN, Bits.mulN, Bits.addN, Bits.wrapN _ BD.out, Bits.wrapN _ BB.out, Bits.wrapN _ BT.out, Bits.maskN _ BT.out, Bits.wrapN _ BC.out, Bits.wrapN _ BW.out, Bits.wrapN _ BA.out, Bits.wrapN _ BH1.out, Bits.wrapN _ BH.out, Bits.wrapM]
  rw [HH.out]
  go_ret2
  exact ⟨rfl, rfl⟩
end Go.Proofs.Ytaloembfekdkoaa

namespace Go.Proofs.Ytaloembfekdkoaa
namespace Dv
theorem step_le (Y y1 y0 u v q r : Nat) (hY : Y = y1 * 4294967296 + y0) (hu : q * y1 + r = u) (h : q * y0 ≤ 4294967296 * r + v) : q * Y ≤ u * 4294967296 + v := by
  subst hY; subst hu
  rw [Nat.mul_add, Nat.add_mul, ← Nat.mul_assoc]
  omega
theorem step_gt (Y y1 y0 u v q r : Nat) (hY : Y = y1 * 4294967296 + y0) (hu : q * y1 + r = u) (h : 4294967296 * r + v < q * y0) : u * 4294967296 + v < q * Y := by
  subst hY; subst hu
  rw [Nat.mul_add, Nat.add_mul, ← Nat.mul_assoc]
  omega
theorem step_end (Y y1 y0 u v q r : Nat) (hY : Y = y1 * 4294967296 + y0) (hY0 : 0 < Y) (hu : q * y1 + r = u) (h : q * y0 ≤ 4294967296 * r + v) (hge : (u * 4294967296 + v) / Y ≤ q) :
    q = (u * 4294967296 + v) / Y := by
  have h1 := step_le Y y1 y0 u v q r hY hu h
  have h2 : q ≤ (u * 4294967296 + v) / Y := (Nat.le_div_iff_mul_le hY0).2 h1
  omega
theorem step_break (Y y1 y0 u v q r : Nat) (hY : Y = y1 * 4294967296 + y0) (hY0 : 0 < Y) (h0 : y0 < 4294967296) (hu : q * y1 + r = u) (hr : 4294967296 ≤ r) (hq : q ≤ 4294967296) (hge : (u * 4294967296 + v) / Y ≤ q) :
    q = (u * 4294967296 + v) / Y := by
  refine step_end Y y1 y0 u v q r hY hY0 hu ?_ hge
  have : q * y0 ≤ 4294967296 * y0 := Nat.mul_le_mul_right _ hq
  omega
theorem step_down_big (Y u v q : Nat) (hY0 : 0 < Y) (hu : u < Y) (hv : v < 4294967296) (hq : 4294967296 ≤ q) : (u * 4294967296 + v) / Y ≤ q - 1 := by
  have : (u * 4294967296 + v) / Y < 4294967296 := by
    rw [Nat.div_lt_iff_lt_mul hY0]
    have : (u + 1) * 4294967296 ≤ Y * 4294967296 := Nat.mul_le_mul_right _ hu
    rw [Nat.mul_comm 4294967296 Y]
    omega
  omega
theorem step_down (Y y1 y0 u v q r : Nat) (hY : Y = y1 * 4294967296 + y0) (hY0 : 0 < Y) (hu : q * y1 + r = u) (h : 4294967296 * r + v < q * y0) : (u * 4294967296 + v) / Y ≤ q - 1 := by
  have h1 := step_gt Y y1 y0 u v q r hY hu h
  have h2 : (u * 4294967296 + v) / Y < q := (Nat.div_lt_iff_lt_mul hY0).2 h1
  omega
theorem step_start (Y y1 y0 u v : Nat) (hY : Y = y1 * 4294967296 + y0) (h1 : 0 < y1) (hv : v < 4294967296) : (u * 4294967296 + v) / Y ≤ u / y1 := by
  have hY0 : 0 < Y := by omega
  have hlt : u * 4294967296 + v < (u / y1 + 1) * Y := by
    have h2 : u < (u / y1 + 1) * y1 := by
      have := Nat.div_add_mod u y1
      have := Nat.mod_lt u h1
      rw [Nat.add_mul, Nat.mul_comm (u / y1)]; omega
    generalize u / y1 + 1 = k at *
    subst hY
    rw [Nat.mul_add, ← Nat.mul_assoc]
    have : (u + 1) * 4294967296 ≤ k * y1 * 4294967296 := Nat.mul_le_mul_right _ h2
    omega
  have := (Nat.div_lt_iff_lt_mul hY0).2 hlt
  omega
theorem two_steps (Y u v1 v0 : Nat) (hY0 : 0 < Y) :
    (u * 18446744073709551616 + (v1 * 4294967296 + v0)) / Y = (u * 4294967296 + v1) / Y * 4294967296 + ((u * 4294967296 + v1) % Y * 4294967296 + v0) / Y ∧
    (u * 18446744073709551616 + (v1 * 4294967296 + v0)) % Y = ((u * 4294967296 + v1) % Y * 4294967296 + v0) % Y := by
  have e : u * 18446744073709551616 + (v1 * 4294967296 + v0) = ((u * 4294967296 + v1) % Y * 4294967296 + v0) + Y * ((u * 4294967296 + v1) / Y * 4294967296) := by
    have := Nat.div_add_mod (u * 4294967296 + v1) Y
    generalize (u * 4294967296 + v1) / Y = a at *
    generalize (u * 4294967296 + v1) % Y = b at *
    rw [← Nat.mul_assoc]
    generalize Y * a = c at *
    omega
  rw [e, Nat.add_mul_div_left _ _ hY0, Nat.add_mul_mod_self_left]
  omega
theorem shift_div (x y p : Nat) (hp : 0 < p) : (x * p) / (y * p) = x / y ∧ (x * p) % (y * p) / p = x % y := by
  refine ⟨Nat.mul_div_mul_right _ _ hp, ?_⟩
  rw [Nat.mul_mod_mul_right]
  exact Nat.mul_div_cancel _ hp
theorem bl (x : Nat) : 0 < x → x < 18446744073709551616 → 2 ^ (Lib.bitLen x - 1) ≤ x ∧ x < 2 ^ Lib.bitLen x ∧ 1 ≤ Lib.bitLen x := by
  induction x using Nat.strongRecOn with
  | ind x ih =>
    intro h0 hx
    rcases Nat.lt_or_ge x 2 with h | h
    · have : x = 1 := by omega
      subst this
      have e : Lib.bitLen 1 = 1 := by decide +kernel
      rw [e]; decide
    · have hb := Lib.bitLen_half x (by omega) hx
      obtain ⟨h1, h2, h3⟩ := ih (x / 2) (by omega) (by omega) (by omega)
      rw [hb]
      have e1 : 1 + Lib.bitLen (x / 2) - 1 = (Lib.bitLen (x / 2) - 1) + 1 := by omega
      refine ⟨?_, ?_, by omega⟩
      · rw [e1, Nat.pow_succ]; omega
      · rw [Nat.add_comm 1, Nat.pow_succ]; omega
theorem lz (x : Nat) (h0 : 0 < x) (hx : x < 18446744073709551616) : ∃ s : Nat, s ≤ 63 ∧ (64 - (Lib.bitLen x : Int)) = (s : Int) ∧ 9223372036854775808 ≤ x * 2 ^ s ∧ x * 2 ^ s < 18446744073709551616 := by
  obtain ⟨h1, h2, h3⟩ := bl x h0 hx
  have h4 := Lib.bitLen_le x 64 (Nat.le_refl _) hx
  refine ⟨64 - Lib.bitLen x, by omega, by omega, ?_, ?_⟩
  · have := Nat.mul_le_mul_right (2 ^ (64 - Lib.bitLen x)) h1
    rw [← Nat.pow_add, show Lib.bitLen x - 1 + (64 - Lib.bitLen x) = 63 by omega] at this
    exact this
  · have := (Nat.mul_lt_mul_right (a := 2 ^ (64 - Lib.bitLen x)) (Nat.two_pow_pos _)).2 h2
    rw [← Nat.pow_add, show Lib.bitLen x + (64 - Lib.bitLen x) = 64 by omega] at this
    exact this
theorem q_bound (Y y1 y0 u q r : Nat) (hY : Y = y1 * 4294967296 + y0) (h1 : 2147483648 ≤ y1) (h0 : y0 < 4294967296) (hu : u < Y) (h : q * y1 + r = u) : q ≤ 4294967297 := by
  rcases Nat.lt_or_ge 4294967297 q with hq | hq
  · exfalso
    have : 4294967298 * y1 ≤ q * y1 := Nat.mul_le_mul_right _ hq
    omega
  · exact hq
theorem q_down (q y1 r u : Nat) (hq : 1 ≤ q) (h : q * y1 + r = u) : (q - 1) * y1 + (r + y1) = u := by
  obtain ⟨k, rfl⟩ : ∃ k, q = k + 1 := ⟨q - 1, by omega⟩
  rw [Nat.add_mul] at h
  rw [show k + 1 - 1 = k by omega]
  omega
theorem left_mod (Y u v Q : Nat) (hQ : Q = (u * 4294967296 + v) / Y) (hY : Y < 18446744073709551616) (hY0 : 0 < Y) :
    ((((u : Int) * 4294967296 % 18446744073709551616 + v) % 18446744073709551616 - (Q : Int) * Y % 18446744073709551616) % 18446744073709551616) = (((u * 4294967296 + v) % Y : Nat) : Int) := by
  have h1 := Nat.div_add_mod (u * 4294967296 + v) Y
  have h2 := Nat.mod_lt (u * 4294967296 + v) hY0
  rw [← hQ] at h1
  generalize (u * 4294967296 + v) % Y = R at *
  rw [Nat.mul_comm] at h1
  have h3 : (Q : Int) * Y = ((Q * Y : Nat) : Int) := (Int.natCast_mul Q Y).symm
  rw [h3]
  generalize Q * Y = z at *
  omega
theorem shift_low (lo s : Nat) (hs : s ≤ 63) (hl : lo < 18446744073709551616) : lo / 2 ^ (64 - s) < 2 ^ s ∧ lo * 2 ^ s = lo / 2 ^ (64 - s) * 18446744073709551616 + lo * 2 ^ s % 18446744073709551616 := by
  have hp : 2 ^ (64 - s) * 2 ^ s = 18446744073709551616 := by rw [← Nat.pow_add, show 64 - s + s = 64 by omega]
  have hp1 : 0 < 2 ^ (64 - s) := Nat.two_pow_pos _
  have hp2 : 0 < 2 ^ s := Nat.two_pow_pos _
  constructor
  · rw [Nat.div_lt_iff_lt_mul hp1, Nat.mul_comm, hp]; exact hl
  · have e : lo * 2 ^ s / 18446744073709551616 = lo / 2 ^ (64 - s) := by
      rw [← hp]; exact Nat.mul_div_mul_right _ _ hp2
    rw [← e, Nat.mul_comm (lo * 2 ^ s / 18446744073709551616)]
    exact (Nat.div_add_mod _ _).symm
theorem high_lt (hi lo y s : Nat) (hs : s ≤ 63) (hlt : hi < y) (hl : lo < 18446744073709551616) : hi * 2 ^ s + lo / 2 ^ (64 - s) < y * 2 ^ s := by
  have h1 := (shift_low lo s hs hl).1
  have h2 : (hi + 1) * 2 ^ s ≤ y * 2 ^ s := Nat.mul_le_mul_right _ hlt
  rw [Nat.add_mul] at h2
  omega
theorem all (hi lo y s Y U L v1 v0 Q1 R1 Q0 R0 : Nat) (hs : s ≤ 63) (hl : lo < 18446744073709551616) (hy0 : 0 < Y) (hY : Y = y * 2 ^ s) (hU : U = hi * 2 ^ s + lo / 2 ^ (64 - s)) (hL : L = lo * 2 ^ s % 18446744073709551616)
    (hLs : L = v1 * 4294967296 + v0) (h1 : Q1 = (U * 4294967296 + v1) / Y) (h2 : R1 = (U * 4294967296 + v1) % Y) (h3 : Q0 = (R1 * 4294967296 + v0) / Y) (h4 : R0 = (R1 * 4294967296 + v0) % Y) :
    (hi * 18446744073709551616 + lo) / y = Q1 * 4294967296 + Q0 ∧ (hi * 18446744073709551616 + lo) % y = R0 / 2 ^ s := by
  have hp2 : 0 < 2 ^ s := Nat.two_pow_pos _
  have e : U * 18446744073709551616 + (v1 * 4294967296 + v0) = (hi * 18446744073709551616 + lo) * 2 ^ s := by
    rw [← hLs, hU, hL, Nat.add_mul, Nat.add_mul, Nat.add_assoc, ← (shift_low lo s hs hl).2, Nat.mul_right_comm]
  obtain ⟨t1, t2⟩ := two_steps Y U v1 v0 hy0
  rw [← h1, ← h2, ← h3] at t1
  rw [← h2, ← h4] at t2
  rw [e, hY] at t1 t2
  obtain ⟨u1, u2⟩ := shift_div (hi * 18446744073709551616 + lo) y (2 ^ s) hp2
  rw [u1] at t1
  rw [t2] at u2
  exact ⟨t1, u2.symm⟩
end Dv
end Go.Proofs.Ytaloembfekdkoaa

namespace Go.Proofs.Ytaloembfekdkoaa
open Go.RowKit
set_option maxHeartbeats 1000000 in
theorem div64_low (lo y : Nat) (h0 : 0 < y) (_hy : y < 18446744073709551616) (_hl : lo < 18446744073709551616) (w : World) :
    Calls Try.prog 52 #[.int .u64 0, .int .u64 lo, .int .u64 y] w fun e w' => e = .returned (.tuple #[.int .u64 ((lo / y : Nat) : Int), .int .u64 ((lo % y : Nat) : Int)]) ∧ ∃ n, w' = w.drewN n := by
  have d1 : ((y : Int) == 0) = false := by simp; omega
  have d2 : decide ((y : Int) ≤ 0) = false := by simp; omega
  go_enter Try.func52, Try.ntmps52
  go_wp2_with fail
  go_quiet (fail)
  go_wp2_with fail
  go_ret2
  have e1 : IntKind.u64.wrap ((lo : Int) / (y : Int)) = ((lo / y : Nat) : Int) := by
    rw [← Int.natCast_ediv, Bits.wrapN _ (Nat.lt_of_le_of_lt (Nat.div_le_self _ _) _hl)]
  have e2 : (lo : Int) % (y : Int) = ((lo % y : Nat) : Int) := (Int.natCast_emod lo y).symm
  rw [← e1, ← e2]
  exact ⟨rfl, _, rfl⟩
set_option maxRecDepth 100000 in
set_option maxHeartbeats 4000000 in
theorem div64_high (hi lo y : Nat) (h0 : 0 < hi) (hlt : hi < y) (hy : y < 18446744073709551616) (hl : lo < 18446744073709551616) (w : World) :
    Calls Try.prog 52 #[.int .u64 hi, .int .u64 lo, .int .u64 y] w fun e w' => e = .returned (.tuple #[.int .u64 (((hi * 18446744073709551616 + lo) / y : Nat) : Int), .int .u64 (((hi * 18446744073709551616 + lo) % y : Nat) : Int)]) ∧ ∃ n, w' = w.drewN n := by
  have d1 : ((y : Int) == 0) = false := by simp; omega
  have d2 : decide ((y : Int) ≤ hi) = false := by simp; omega
  have d3 : ((hi : Int) == 0) = false := by simp; omega
  obtain ⟨s, hs, es, hy1, hy2⟩ := Dv.lz y (by omega) hy
  have ES := Lib.hid es
  clear es
  obtain ⟨Y, hY⟩ : ∃ Y, Y = y * 2 ^ s := ⟨_, rfl⟩
  obtain ⟨U, hU⟩ : ∃ U, U = hi * 2 ^ s + lo / 2 ^ (64 - s) := ⟨_, rfl⟩
  obtain ⟨L, hL⟩ : ∃ L, L = lo * 2 ^ s % 18446744073709551616 := ⟨_, rfl⟩
  obtain ⟨y1, hy1d⟩ : ∃ y1, y1 = Y / 4294967296 := ⟨_, rfl⟩
  obtain ⟨y0, hy0d⟩ : ∃ y0, y0 = Y % 4294967296 := ⟨_, rfl⟩
  obtain ⟨v1, hv1d⟩ : ∃ v1, v1 = L / 4294967296 := ⟨_, rfl⟩
  obtain ⟨v0, hv0d⟩ : ∃ v0, v0 = L % 4294967296 := ⟨_, rfl⟩
  have hUY : U < Y := by rw [hU, hY]; exact Dv.high_lt hi lo y s hs hlt hl
  have hY64 : Y < 18446744073709551616 := by rw [hY]; exact hy2
  have hY63 : 9223372036854775808 ≤ Y := by rw [hY]; exact hy1
  have hL64 : L < 18446744073709551616 := by omega
  have r1 : IntKind.u64.wrap ((y : Int) * 2 ^ s) = (Y : Int) := by
    rw [show (y : Int) * 2 ^ s = ((y * 2 ^ s : Nat) : Int) by rw [Int.natCast_mul, Int.natCast_pow]; rfl, ← hY, Bits.wrapN _ hY64]
  have r2 : bits BinOp.and IntKind.u64 (Y : Int) 4294967295 = (y0 : Int) := by rw [Bits.maskN _ hY64, hy0d]
  have r3 : (Y : Int) / 4294967296 = (y1 : Int) := by omega
  have r4 : IntKind.u64.wrap ((lo : Int) * 2 ^ s) = (L : Int) := by
    rw [show (lo : Int) * 2 ^ s = ((lo * 2 ^ s : Nat) : Int) by rw [Int.natCast_mul, Int.natCast_pow]; rfl, Bits.wrapM, ← hL]
  have r5 : (L : Int) / 4294967296 = (v1 : Int) := by omega
  have r6 : bits BinOp.and IntKind.u64 (L : Int) 4294967295 = (v0 : Int) := by rw [Bits.maskN _ hL64, hv0d]
  have r7 : bits BinOp.or IntKind.u64 (IntKind.u64.wrap ((hi : Int) * 2 ^ s)) ((lo : Int) / 2 ^ (64 - s)) = (U : Int) := by
    have hlo := (Dv.shift_low lo s hs hl).1
    have hh0 : hi * 2 ^ s ≤ U := by rw [hU]; exact Nat.le_add_right _ _
    have hh : hi * 2 ^ s < 18446744073709551616 := by omega
    have hs2 : (2 : Nat) ^ s ≤ 2 ^ 63 := Nat.pow_le_pow_right (by omega) hs
    rw [show (hi : Int) * 2 ^ s = ((hi * 2 ^ s : Nat) : Int) by rw [Int.natCast_mul, Int.natCast_pow]; rfl, Bits.wrapN _ hh,
      show (lo : Int) / 2 ^ (64 - s) = ((lo / 2 ^ (64 - s) : Nat) : Int) by rw [Int.natCast_ediv, Int.natCast_pow]; rfl,
      u64_or_nat _ _ hh (by omega), nat_join s _ _ (Nat.mul_mod_left _ _) hlo, hU]
  have b1 : 2147483648 ≤ y1 := by omega
  have b2 : y1 < 4294967296 := by omega
  have b3 : y0 < 4294967296 := by omega
  have b4 : v1 < 4294967296 := by omega
  have b5 : v0 < 4294967296 := by omega
  have HYs := Lib.hid (show Y = y1 * 4294967296 + y0 by omega)
  have HLs := Lib.hid (show L = v1 * 4294967296 + v0 by omega)
  have HY := Lib.hid hY
  have HU := Lib.hid hU
  have HL := Lib.hid hL
  clear hY hU hL hy1d hy0d hv1d hv0d hy1 hy2
  obtain ⟨qa, hqa⟩ : ∃ qa, qa = U / y1 := ⟨_, rfl⟩
  obtain ⟨ra, hra⟩ : ∃ ra, ra = U % y1 := ⟨_, rfl⟩
  obtain ⟨m1, hm1⟩ : ∃ m1, m1 = qa * y1 := ⟨_, rfl⟩
  have hsum : m1 + ra = U := by rw [hm1, hqa, hra, Nat.mul_comm]; exact Nat.div_add_mod U y1
  have hrl : ra < y1 := by rw [hra]; exact Nat.mod_lt _ (by omega)
  have r8 : IntKind.u64.wrap ((U : Int) / (y1 : Int)) = (qa : Int) := by
    rw [← Int.natCast_ediv, ← hqa, Bits.wrapN _ (by rw [hqa]; exact Nat.lt_of_le_of_lt (Nat.div_le_self _ _) (by omega))]
  have r9 : IntKind.u64.wrap ((qa : Int) * (y1 : Int)) = (m1 : Int) := by
    rw [← Int.natCast_mul, ← hm1, Bits.wrapN _ (by omega)]
  have r10 : IntKind.u64.wrap ((U : Int) - (m1 : Int)) = (ra : Int) := by rw [IntKind.wrap_u64]; omega
  obtain ⟨Q1, hQ1⟩ : ∃ Q1, Q1 = (U * 4294967296 + v1) / Y := ⟨_, rfl⟩
  have HQ1 := Lib.hid hQ1
  have HST := Lib.hid (show Q1 ≤ qa by rw [hQ1, hqa]; exact Dv.step_start Y y1 y0 U v1 HYs.out (by omega) b4)
  have HM := Lib.hid (show qa * y1 + ra = U by rw [← hm1]; exact hsum)
  obtain ⟨R1, hR1⟩ : ∃ R1, R1 = (U * 4294967296 + v1) % Y := ⟨_, rfl⟩
  have hR1Y : R1 < Y := by rw [hR1]; exact Nat.mod_lt _ (by omega)
  have HUY := Lib.hid hUY
  have HR1Y := Lib.hid hR1Y
  have s1 : IntKind.u64.wrap (IntKind.u64.wrap (IntKind.u64.wrap ((U : Int) * 4294967296) + (v1 : Int)) - IntKind.u64.wrap ((Q1 : Int) * (Y : Int))) = (R1 : Int) := by
    rw [IntKind.wrap_u64, IntKind.wrap_u64, IntKind.wrap_u64, IntKind.wrap_u64, hR1]
    exact Dv.left_mod Y U v1 Q1 hQ1 hY64 (by omega)
  obtain ⟨qb, hqb⟩ : ∃ qb, qb = R1 / y1 := ⟨_, rfl⟩
  obtain ⟨rb, hrb⟩ : ∃ rb, rb = R1 % y1 := ⟨_, rfl⟩
  obtain ⟨m2, hm2⟩ : ∃ m2, m2 = qb * y1 := ⟨_, rfl⟩
  have hsum2 : m2 + rb = R1 := by rw [hm2, hqb, hrb, Nat.mul_comm]; exact Nat.div_add_mod R1 y1
  have hrl2 : rb < y1 := by rw [hrb]; exact Nat.mod_lt _ (by omega)
  have hqas : qa < 18446744073709551616 := by rw [hqa]; exact Nat.lt_of_le_of_lt (Nat.div_le_self _ _) (by omega)
  have hqbs : qb < 18446744073709551616 := by rw [hqb]; exact Nat.lt_of_le_of_lt (Nat.div_le_self _ _) (by omega)
  have s2 : IntKind.u64.wrap ((R1 : Int) / (y1 : Int)) = (qb : Int) := by rw [← Int.natCast_ediv, ← hqb, Bits.wrapN _ hqbs]
  have s3 : IntKind.u64.wrap ((qb : Int) * (y1 : Int)) = (m2 : Int) := by rw [← Int.natCast_mul, ← hm2, Bits.wrapN _ (by omega)]
  have s4 : IntKind.u64.wrap ((R1 : Int) - (m2 : Int)) = (rb : Int) := by rw [IntKind.wrap_u64]; omega
  obtain ⟨Q0, hQ0⟩ : ∃ Q0, Q0 = (R1 * 4294967296 + v0) / Y := ⟨_, rfl⟩
  obtain ⟨R0, hR0⟩ : ∃ R0, R0 = (R1 * 4294967296 + v0) % Y := ⟨_, rfl⟩
  have HQ0 := Lib.hid hQ0
  have HR1 := Lib.hid hR1
  have HR0 := Lib.hid hR0
  have HST2 := Lib.hid (show Q0 ≤ qb by rw [hQ0, hqb]; exact Dv.step_start Y y1 y0 R1 v0 HYs.out (by omega) b5)
  have HM2 := Lib.hid (show qb * y1 + rb = R1 by rw [← hm2]; exact hsum2)
  have s5 : IntKind.u64.wrap (IntKind.u64.wrap (IntKind.u64.wrap ((R1 : Int) * 4294967296) + (v0 : Int)) - IntKind.u64.wrap ((Q0 : Int) * (Y : Int))) = (R0 : Int) := by
    rw [IntKind.wrap_u64, IntKind.wrap_u64, IntKind.wrap_u64, IntKind.wrap_u64, hR0]
    exact Dv.left_mod Y R1 v0 Q0 hQ0 hY64 (by omega)
  have s6 : True := trivial
  have s7 : True := trivial
  clear hqa hra hm1 hsum hQ1 hqb hrb hm2 hsum2 hQ0 hR0 hR1 hUY hR1Y
  go_enter Try.func52, Try.ntmps52
  go_wp2_with fail
  refine (lz64_any y hy _).mono ?_
  rintro e w1 ⟨rfl, rfl⟩
  rw [ES.out]
  go_upto_block 0 with fail
  go_cut [15, 16] (fun a _ wx => a = .int .u64 (Q1 : Int) ∧ wx = w)
  case first =>
    clear r1 r2 r3 r4 r5 r6 r7 r8 r9 r10 d1 d2 d3 ES HY HU HL HLs
    go_wp2_with fail
    go_loop [15, 16] (fun a b => ∃ q r : Nat, a = .int .u64 q ∧ b = .int .u64 r ∧ r < 4294967296 ∧ Q1 ≤ q ∧ q < 18446744073709551616 ∧ Hid (q * y1 + r = U)) (fun a _ => (intOf a).toNat)
    case atStart => exact ⟨qa, ra, rfl, rfl, by omega, HST.out, by omega, HM.out⟩
    case round =>
      obtain ⟨q, r, rfl, rfl, hr, hq, hq64, HQ⟩ := hrel
      have hqb : q ≤ 4294967297 := Dv.q_bound Y y1 y0 U q r HYs.out b1 b3 HUY.out HQ.out
      clear HST HM
      by_cases hB : 4294967296 ≤ q
      · have dB : decide ((4294967296 : Int) ≤ q) = true := by simp; omega
        have HDN := Lib.hid (HQ1.out ▸ Dv.step_down_big Y U v1 q (by omega) HUY.out b4 hB)
        have HQ' : Hid ((q - 1) * y1 + (r + y1) = U) := Dv.q_down q y1 r U (by omega) HQ.out
        by_cases hbr : r + y1 < 4294967296
        · have dC : decide ((4294967296 : Int) ≤ (r : Int) + y1) = false := by simp; omega
          go_wp2_with fail
          go_round
          case rel => exact ⟨q - 1, r + y1, by go_num, by go_num, hbr, HDN.out, by omega, HQ'⟩
          case measure => simp [intOf]; omega
        · have dC : decide ((4294967296 : Int) ≤ (r : Int) + y1) = true := by simp; omega
          have HE := Lib.hid (Dv.step_break Y y1 y0 U v1 (q - 1) (r + y1) HYs.out (by omega) b3 HQ'.out (by omega) (by omega) (HQ1.out ▸ HDN.out))
          go_wp2_with fail
          go_meet
          exact ⟨by rw [HQ1.out, ← HE.out]; go_num, rfl⟩
      · have dB : decide ((4294967296 : Int) ≤ q) = false := by simp; omega
        obtain ⟨P, hP⟩ : ∃ P, P = q * y0 := ⟨_, rfl⟩
        have hPb : P < 18446744073709551616 := by
          have : q * y0 ≤ 4294967295 * 4294967295 := Nat.mul_le_mul (by omega) (by omega)
          omega
        have hwP : IntKind.u64.wrap ((q : Int) * (y0 : Int)) = (P : Int) := by rw [← Int.natCast_mul, ← hP, Bits.wrapN _ hPb]
        have HP := Lib.hid hP
        clear hP
        by_cases hgt : 4294967296 * r + v1 < P
        · have dG : decide (4294967296 * (r : Int) + v1 < P) = true := by simp; omega
          have HDN := Lib.hid (HQ1.out ▸ Dv.step_down Y y1 y0 U v1 q r HYs.out (by omega) HQ.out (by rw [← HP.out]; exact hgt))
          have HQ' : Hid ((q - 1) * y1 + (r + y1) = U) := Dv.q_down q y1 r U (by rcases Nat.eq_zero_or_pos q with h | h; (rw [HP.out, h] at hgt; omega); exact h) HQ.out
          have hq1 : 1 ≤ q := by rcases Nat.eq_zero_or_pos q with h | h; (rw [HP.out, h] at hgt; omega); exact h
          by_cases hbr : r + y1 < 4294967296
          · have dC : decide ((4294967296 : Int) ≤ (r : Int) + y1) = false := by simp; omega
            go_wp2_with fail
            go_round
            case rel => exact ⟨q - 1, r + y1, by go_num, by go_num, hbr, HDN.out, by omega, HQ'⟩
            case measure => simp [intOf]; omega
          · have dC : decide ((4294967296 : Int) ≤ (r : Int) + y1) = true := by simp; omega
            have HE := Lib.hid (Dv.step_break Y y1 y0 U v1 (q - 1) (r + y1) HYs.out (by omega) b3 HQ'.out (by omega) (by omega) (HQ1.out ▸ HDN.out))
            go_wp2_with fail
            go_meet
            exact ⟨by rw [HQ1.out, ← HE.out]; go_num, rfl⟩
        · have dG : decide (4294967296 * (r : Int) + v1 < P) = false := by simp; omega
          have HE := Lib.hid (Dv.step_end Y y1 y0 U v1 q r HYs.out (by omega) HQ.out (by rw [← HP.out]; omega) (HQ1.out ▸ hq))
          go_wp2_with fail
          go_meet
          exact ⟨by rw [HQ1.out, ← HE.out], rfl⟩
  case rest =>
    obtain ⟨rfl, rfl⟩ := hcut
    go_upto_block 2 with fail
    go_cut [18, 16] (fun a _ wx => a = .int .u64 (Q0 : Int) ∧ wx = wc)
    case first =>
      clear r1 r2 r3 r4 r5 r6 r7 r8 r9 r10 s1 s2 s3 s4 s5 s6 s7 d1 d2 d3 ES HY HU HL HLs
      go_wp2_with fail
      go_loop [18, 16] (fun a b => ∃ q r : Nat, a = .int .u64 q ∧ b = .int .u64 r ∧ r < 4294967296 ∧ Q0 ≤ q ∧ q < 18446744073709551616 ∧ Hid (q * y1 + r = R1)) (fun a _ => (intOf a).toNat)
      case atStart => exact ⟨qb, rb, rfl, rfl, by omega, HST2.out, by omega, HM2.out⟩
      case round =>
        obtain ⟨q, r, rfl, rfl, hr, hq, hq64, HQ⟩ := hrel
        have hqb : q ≤ 4294967297 := Dv.q_bound Y y1 y0 R1 q r HYs.out b1 b3 HR1Y.out HQ.out
        clear HST2 HM2
        by_cases hB : 4294967296 ≤ q
        · have dB : decide ((4294967296 : Int) ≤ q) = true := by simp; omega
          have HDN := Lib.hid (HQ0.out ▸ Dv.step_down_big Y R1 v0 q (by omega) HR1Y.out b5 hB)
          have HQ' : Hid ((q - 1) * y1 + (r + y1) = R1) := Dv.q_down q y1 r R1 (by omega) HQ.out
          by_cases hbr : r + y1 < 4294967296
          · have dC : decide ((4294967296 : Int) ≤ (r : Int) + y1) = false := by simp; omega
            go_wp2_with fail
            go_round
            case rel => exact ⟨q - 1, r + y1, by go_num, by go_num, hbr, HDN.out, by omega, HQ'⟩
            case measure => simp [intOf]; omega
          · have dC : decide ((4294967296 : Int) ≤ (r : Int) + y1) = true := by simp; omega
            have HE := Lib.hid (Dv.step_break Y y1 y0 R1 v0 (q - 1) (r + y1) HYs.out (by omega) b3 HQ'.out (by omega) (by omega) (HQ0.out ▸ HDN.out))
            go_wp2_with fail
            go_meet
            exact ⟨by rw [HQ0.out, ← HE.out]; go_num, rfl⟩
        · have dB : decide ((4294967296 : Int) ≤ q) = false := by simp; omega
          obtain ⟨P, hP⟩ : ∃ P, P = q * y0 := ⟨_, rfl⟩
          have hPb : P < 18446744073709551616 := by
            have : q * y0 ≤ 4294967295 * 4294967295 := Nat.mul_le_mul (by omega) (by omega)
            omega
          have hwP : IntKind.u64.wrap ((q : Int) * (y0 : Int)) = (P : Int) := by rw [← Int.natCast_mul, ← hP, Bits.wrapN _ hPb]
          have HP := Lib.hid hP
          clear hP
          by_cases hgt : 4294967296 * r + v0 < P
          · have dG : decide (4294967296 * (r : Int) + v0 < P) = true := by simp; omega
            have HDN := Lib.hid (HQ0.out ▸ Dv.step_down Y y1 y0 R1 v0 q r HYs.out (by omega) HQ.out (by rw [← HP.out]; exact hgt))
            have HQ' : Hid ((q - 1) * y1 + (r + y1) = R1) := Dv.q_down q y1 r R1 (by rcases Nat.eq_zero_or_pos q with h | h; (rw [HP.out, h] at hgt; omega); exact h) HQ.out
            have hq1 : 1 ≤ q := by rcases Nat.eq_zero_or_pos q with h | h; (rw [HP.out, h] at hgt; omega); exact h
            by_cases hbr : r + y1 < 4294967296
            · have dC : decide ((4294967296 : Int) ≤ (r : Int) + y1) = false := by simp; omega
              go_wp2_with fail
              go_round
              case rel => exact ⟨q - 1, r + y1, by go_num, by go_num, hbr, HDN.out, by omega, HQ'⟩
              case measure => simp [intOf]; omega
            · have dC : decide ((4294967296 : Int) ≤ (r : Int) + y1) = true := by simp; omega
              have HE := Lib.hid (Dv.step_break Y y1 y0 R1 v0 (q - 1) (r + y1) HYs.out (by omega) b3 HQ'.out (by omega) (by omega) (HQ0.out ▸ HDN.out))
              go_wp2_with fail
              go_meet
              exact ⟨by rw [HQ0.out, ← HE.out]; go_num, rfl⟩
          · have dG : decide (4294967296 * (r : Int) + v0 < P) = false := by simp; omega
            have HE := Lib.hid (Dv.step_end Y y1 y0 R1 v0 q r HYs.out (by omega) HQ.out (by rw [← HP.out]; omega) (HQ0.out ▸ hq))
            go_wp2_with fail
            go_meet
            exact ⟨by rw [HQ0.out, ← HE.out], rfl⟩
    case rest =>
      obtain ⟨rfl, rfl⟩ := hcut
      obtain ⟨t1, t2⟩ := Dv.all hi lo y s Y U L v1 v0 Q1 R1 Q0 R0 hs hl (by omega) HY.out HU.out HL.out HLs.out HQ1.out HR1.out HQ0.out HR0.out
      have T1 := Lib.hid t1
      have T2 := Lib.hid t2
      have hq64 : (hi * 18446744073709551616 + lo) / y < 18446744073709551616 := by
        rw [Nat.div_lt_iff_lt_mul (by omega)]
        have : (hi + 1) * 18446744073709551616 ≤ y * 18446744073709551616 := Nat.mul_le_mul_right _ hlt
        rw [Nat.mul_comm 18446744073709551616 y]
        omega
      rw [t1] at hq64
      have hw : (Q1 : Int) * 4294967296 + (Q0 : Int) = ((Q1 * 4294967296 + Q0 : Nat) : Int) := by omega
      have hr : (R0 : Int) / 2 ^ s = ((R0 / 2 ^ s : Nat) : Int) := by rw [Int.natCast_ediv, Int.natCast_pow]; rfl
      clear t1 t2
      have HW := Lib.hid hw
      have HR := Lib.hid hr
      clear hw hr
      go_wp2_with fail
      go_ret2
      rw [T1.out, T2.out, ← HW.out, ← HR.out]
      exact ⟨rfl, 0, rfl⟩
theorem div64_any (hi lo y : Nat) (hlt : hi < y) (hy : y < 18446744073709551616) (hl : lo < 18446744073709551616) (w : World) :
    Calls Try.prog 52 #[.int .u64 hi, .int .u64 lo, .int .u64 y] w fun e w' => e = .returned (.tuple #[.int .u64 (((hi * 18446744073709551616 + lo) / y : Nat) : Int), .int .u64 (((hi * 18446744073709551616 + lo) % y : Nat) : Int)]) ∧ ∃ n, w' = w.drewN n := by
  rcases Nat.eq_zero_or_pos hi with h | h
  · subst h
    rw [Nat.zero_mul, Nat.zero_add]
    exact div64_low lo y hlt hy hl w
  · exact div64_high hi lo y h hlt hy hl w
end Go.Proofs.Ytaloembfekdkoaa

/- The reference's Int. -/
import Derived.Test.YtngeijdfpgmcfaaBigPlus
import Derived.IntWalk
namespace Go.Proofs.Ytngeijdfpgmcfaa
open Go.RowKit
set_option maxRecDepth 100000
set_option linter.unusedVariables false

namespace Big
def intR (z : Int) : Int × Bool := if z.natAbs < 18446744073709551616 then (IntKind.i64.wrap z, decide (-9223372036854775808 ≤ z ∧ z ≤ 9223372036854775807)) else (0, false)
theorem len4 (m : Nat) : (dig m).length ≤ 4 ↔ m < 18446744073709551616 := by
  constructor
  · intro h
    have h1 := dig_lt_pow m
    have h2 : 65536 ^ (dig m).length ≤ 65536 ^ 4 := Nat.pow_le_pow_right (by omega) h
    have h3 : (65536 ^ 4 : Nat) = 18446744073709551616 := by decide
    omega
  · intro h
    exact dig_length_le (by have h3 : (65536 ^ 4 : Nat) = 18446744073709551616 := by decide
                            omega)
theorem drop_le (ds : List Nat) (k : Nat) : val (ds.drop k) ≤ val ds := by
  have h := val_split ds k
  have : 1 * val (ds.drop k) ≤ 65536 ^ k * val (ds.drop k) := Nat.mul_le_mul_right _ (Nat.pow_pos (by omega))
  omega
end Big

set_option maxHeartbeats 1000000 in
theorem int_num (v : Value) (z : Int) (w : World) (hv : NumZ w v z) (hl : (Big.dig z.natAbs).length ≤ 3000) :
    Calls Try.prog 56 #[v] w fun e w' => e = .returned (.tuple #[.int .i64 (Big.intR z).1, .bool (Big.intR z).2]) ∧ Mod [] w w' := by
  obtain ⟨oa, n, c, rfl, hs⟩ := hv.form
  have T := Lib.hid (own1 w #[.bool (decide (z < 0)), .slice oa n c] 99)
  have hn : n = (Big.dig z.natAbs).length := by
    rcases hs with ⟨h, h'⟩ | ⟨b, o, cap, h, _⟩
    · simp at h h'; rw [h', h.2.1]; rfl
    · simp at h; exact h.2.1
  have hlen := Big.len4 z.natAbs
  rw [← hn] at hlen hl
  by_cases h4 : n ≤ 4
  · have hm := hlen.1 h4
    have HR := Lib.hid (show Big.intR z = (IntKind.i64.wrap z, decide (-9223372036854775808 ≤ z ∧ z ≤ 9223372036854775807)) by unfold Big.intR; rw [if_pos hm])
    have hcl : ∀ i, i < n → ∃ ab ao, oa = some ⟨ab, ao, none⟩ ∧ w.cell? ⟨ab, ao + i, none⟩ = some (.int .i64 (((Big.dig z.natAbs).getD i 0 : Nat) : Int)) ∧ ab < w.heap.size := fun i hi => by
      have hi2 : i < (Big.dig z.natAbs).length := by omega
      rcases hs with ⟨h, h'⟩ | ⟨b, o, cap, h, hb, hc, hcl⟩
      · simp at h'; rw [h'] at hi2; simp at hi2
      · simp at h
        refine ⟨b, o, h.1, ?_, hb⟩
        rw [hcl i (by simpa using hi2)]
        simp [dcell, hi2]
    have HCL := Lib.hid hcl
    have HD := Lib.hid (Big.digits_dig z.natAbs)
    have HV := Lib.hid (Big.val_dig z.natAbs)
    have HN := Lib.hid hn
    have d4 : decide ((4 : Int) < (n : Int)) = false := by simp; omega
    have hint : Hid (∀ {a b : Int}, a = b → Value.int .i64 a = .int .i64 b) := fun h => by rw [h]
    clear hs hcl hn hlen hv
    generalize Big.dig z.natAbs = ds at *
    obtain ⟨bz, hbz⟩ : ∃ bz, bz = decide (z < 0) := ⟨_, rfl⟩
    rw [← hbz] at T ⊢
    have HB := Lib.hid hbz
    clear hbz
    go_enter Try.func56, Try.ntmps56
    go_wp2_with fail
    go_loop [4, 5] (fun mv i => (i = .int .i64 (-1) ∧ mv = .int .u64 ((Big.val ds : Nat) : Int)) ∨ ∃ j m : Nat, j < n ∧ i = .int .i64 (j : Int) ∧ mv = .int .u64 (m : Int) ∧ Hid (m = Big.val (ds.drop (j + 1)))) (fun _ i => (intOf i + 1).toNat)
    case atStart =>
      rcases Nat.eq_zero_or_pos n with h0 | h0
      · left
        refine ⟨hint.out (by omega), ?_⟩
        have e1 : ds = [] := List.length_eq_zero_iff.1 (by have := HN.out; omega)
        rw [e1]; rfl
      · right
        refine ⟨n - 1, 0, by omega, hint.out (by omega), rfl, ?_⟩
        rw [List.drop_of_length_le (by have := HN.out; omega)]; exact rfl
    case round =>
      obtain ⟨a0, a1, -, -⟩ := (T.out.at 0 rfl).two
      rcases hrel with ⟨rfl, rfl⟩ | ⟨j, m, hj, rfl, rfl, HE⟩
      · rw [HV.out]
        have E1 := HB.out
        cases bz with
        | true =>
          have hneg : z < 0 := by have := E1.symm; simpa using this
          have w1 : wrap64 (IntKind.u64.wrap (-((z.natAbs : Nat) : Int))) = IntKind.i64.wrap z := by unfold wrap64; rw [IntKind.wrap_u64, IntKind.wrap_i64]; omega
          have w2 : decide (((z.natAbs : Nat) : Int) ≤ 9223372036854775808) = decide (-9223372036854775808 ≤ z ∧ z ≤ 9223372036854775807) := by rw [decide_eq_decide]; omega
          have W1 := Lib.hid w1
          have W2 := Lib.hid w2
          clear E1 w1 w2 hneg
          generalize z.natAbs = mm at *
          go_wp2_with fail
          go_ret2
          refine ⟨?_, T.out.mod⟩
          rw [HR.out, ← W1.out, ← W2.out]
          rfl
        | false =>
          have hneg : ¬ z < 0 := by have := E1.symm; simpa using this
          have w1 : wrap64 (((z.natAbs : Nat) : Int)) = IntKind.i64.wrap z := by unfold wrap64; rw [IntKind.wrap_i64]; omega
          have w2 : decide (((z.natAbs : Nat) : Int) ≤ 9223372036854775807) = decide (-9223372036854775808 ≤ z ∧ z ≤ 9223372036854775807) := by rw [decide_eq_decide]; omega
          have W1 := Lib.hid w1
          have W2 := Lib.hid w2
          clear E1 w1 w2 hneg
          generalize z.natAbs = mm at *
          go_wp2_with fail
          go_ret2
          refine ⟨?_, T.out.mod⟩
          rw [HR.out, ← W1.out, ← W2.out]
          rfl
      · obtain ⟨ab, ao, rfl, hc1, hab⟩ := HCL.out j hj
        have hx := Big.digits_getD HD.out j
        have hvd := Big.val_drop ds j
        have hle := Big.drop_le ds j
        rw [HV.out] at hle
        rw [← HE.out] at hvd
        have hc2 : (w.alloc (.cells #[.bool bz, .slice (some ⟨ab, ao, none⟩) n c] 99)).cell? ⟨ab, ao + j, none⟩ = some (.int .i64 ((ds.getD j 0 : Nat) : Int)) := by
          rw [((Mod.refl [] w).alloc _).cell (p := ⟨ab, ao + j, none⟩) hab (by simp)]; exact hc1
        have HVD := Lib.hid hvd
        have hb : m * 65536 + ds.getD j 0 < 18446744073709551616 := by omega
        clear hvd hle hc1 HE HCL
        generalize ds.getD j 0 = x at *
        have k0 : decide ((0 : Int) ≤ j) = true := by simp
        have k1 : (0 : Int) ≤ j := by omega
        have k2 : (j : Int) < n := by omega
        have k3 : IntKind.u64.wrap ((m : Int) * 65536) = (m : Int) * 65536 := by rw [IntKind.wrap_u64]; omega
        have k4 : IntKind.u64.wrap (x : Int) = (x : Int) := by rw [IntKind.wrap_u64]; omega
        have k5 : IntKind.u64.wrap ((m : Int) * 65536 + x) = (m : Int) * 65536 + x := by rw [IntKind.wrap_u64]; omega
        go_wp2_with fail
        go_round
        case rel =>
          rcases Nat.eq_zero_or_pos j with h0 | h0
          · subst h0
            refine .inl ⟨hint.out (by omega), ?_⟩
            have := HVD.out
            rw [List.drop_zero] at this
            congr 1; omega
          · refine .inr ⟨j - 1, m * 65536 + x, by omega, hint.out (by omega), by congr 1, ?_⟩
            rw [show j - 1 + 1 = j by omega, HVD.out]; show m * 65536 + x = _; omega
        case measure => simp [intOf]
  · have HR := Lib.hid (show Big.intR z = (0, false) by unfold Big.intR; rw [if_neg (by omega)])
    have d4 : decide ((4 : Int) < (n : Int)) = true := by simp; omega
    clear hs hn hlen hv
    generalize decide (z < 0) = bz at *
    go_enter Try.func56, Try.ntmps56
    go_wp2_with fail
    go_ret2
    exact ⟨by rw [HR.out]; rfl, T.out.mod⟩
end Go.Proofs.Ytngeijdfpgmcfaa

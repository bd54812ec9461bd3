/-
  CheckLoops: it returns true, whatever the two numbers. No condition.
-/
import Derived.Test.YtnknlhjghpgbcaaGreatLoopsAll
import Derived.Test.YtnknlhjghpgbcaaGreatAwake
import Derived.IntWalk
import Derived.Lib.Hide
import Derived.KernelRfl
import Derived.Tactics
import Derived.WalkLawsBesides
import Derived.Deep.DeepCutAuto
namespace Go.Proofs.YtnknlhjghpgbcaaGreat
open Go.RowKit Ev
set_option linter.unusedVariables false
set_option linter.unusedSimpArgs false

theorem loops_end {n k : Int} (h : loopsAt n k = true) {R : Ending → World → Prop} {a : Act} {w : World} (hl : ∀ p ∈ loopsSlots n k, flat 6 p.2 = true ∧ a.tmps[p.1]? = some p.2) (hn : a.tmps.size = 109) (hd : a.defers = []) (hR : ∀ w', Below w.heap.size w w' → R (.returned (.bool true)) w') :
    wpN Tryz.prog 3 (tl 4 (codeOf Tryz.f3)) (bodyPost Tryz.prog Tryz.f3 R) a w := wpN_of_ev mixed Tryz.func3 hl hn hd rfl (allTrue_some h) hR

set_option maxHeartbeats 400000 in
set_option maxRecDepth 100000 in
theorem loops_walk (a b : Int) (w : World) (ha : -9223372036854775808 ≤ a ∧ a ≤ 9223372036854775807) (hb : -9223372036854775808 ≤ b ∧ b ≤ 9223372036854775807) :
    Calls Tryz.prog 3 #[.int .i64 a, .int .i64 b] w fun e w' => e = .returned (.bool true) ∧ Below w.heap.size w w' := by
  have hA := Lib.hid (rest_any a 7 · ha (by omega))
  have hn : ∃ n, n = 2 + a % 7 := ⟨_, rfl⟩
  obtain ⟨n, hn⟩ := hn
  have hn2 : 2 ≤ n ∧ n ≤ 8 := by omega
  have e1 : IntKind.i64.wrap (2 + a % 7) = n := by rw [hn]; exact IntWalk.i64_in _ (by omega)
  have hB := Lib.hid (rest_any b n · hb (by omega))
  have hall := Lib.hid (loops_all n (b % n) hn2 ⟨Int.emod_nonneg _ (by omega), Int.emod_lt_of_pos _ (by omega)⟩)
  obtain ⟨k, hk⟩ : ∃ k, k = b % n := ⟨_, rfl⟩
  rw [← hk] at hB hall
  clear hk hn hn2 ha hb
  refine calls_of_wpN Tryz.func3 rfl ?_
  simp only [Tryz.ntmps3, List.size_toArray, List.length_cons, List.length_nil, Nat.reduceAdd, Nat.reduceSub, Array.replicate_succ, Array.replicate_zero, List.push_toArray, List.append_toArray, List.nil_append, List.cons_append]
  refine wpN_seq_k fun K hK => ?_
  go_wp
  refine wpN_seq_k fun K hK => ?_
  go_wp2_with fail
  refine (awake_true _).mono ?_
  rintro e w1 ⟨rfl, bel⟩
  go_wp2_with fail
  refine wpN_seq_k fun K hK => ?_
  go_wp2_with fail
  refine (hA.out _).mono ?_
  rintro e w2 ⟨rfl, rfl⟩
  go_wp2_with fail
  refine wpN_seq_k fun K hK => ?_
  go_wp2_with fail
  refine (hB.out _).mono ?_
  rintro e w2 ⟨rfl, rfl⟩
  go_wp2_with fail
  refine loops_end hall.out ?_ ?_ rfl fun w' hw => ⟨rfl, bel.trans (hw.mono bel.size)⟩
  · intro p hp
    simp only [loopsSlots, List.mem_cons, List.not_mem_nil, or_false] at hp
    rcases hp with rfl | rfl | rfl
    · exact ⟨rfl, by kernel_rfl⟩
    · exact ⟨rfl, by kernel_rfl⟩
    · exact ⟨rfl, by kernel_rfl⟩
  · kernel_rfl
end Go.Proofs.YtnknlhjghpgbcaaGreat

/-
  check: chars that rise are right. No condition.
-/
import Derived.Test.YtnknlhjghpgbcaaGreatLimChar
import Derived.Deep.LoopGhost
namespace Go.Proofs.YtnknlhjghpgbcaaGreat
open Go.RowKit
set_option linter.unusedVariables false

theorem Own.left {w W : World} {l l' : List (Nat × Array Value × TypeId)} (T : Own w W (l ++ l')) : Own w W l :=
  ⟨T.mod, fun p hp => T.blk p (List.mem_append.2 (.inl hp)), by have := T.nodup; rw [List.map_append, List.nodup_append] at this; exact this.1⟩

set_option maxHeartbeats 4000000 in
theorem each_chars (bF bA N cc cd : Nat) (u v3 v4 v5 v6 v7 v8 : Value) (ga : Option Addr) (gl gc : Nat) (w : World) (hgl : 0 < gl) (hN : N ≤ 1000000) (hb : bF < w.heap.size) (hbA : bA < w.heap.size)
    (hc : ∀ i, w.cell? ⟨bF, i, none⟩ = (#[u, .slice ga gl gc, .slice (some ⟨bA, 0, none⟩) N cc, v3, v4, v5, v6, v7, v8] : Array Value)[i]?)
    (hA : ∀ i, i < N → w.cell? ⟨bA, 0 + i * 2, none⟩ = some (.int .i64 ((i : Int) + 1)) ∧ w.cell? ⟨bA, 0 + i * 2 + 1, none⟩ = some (.int .i64 0)) :
    Calls Tryz.prog 70 #[.slice (some ⟨bA, 0, none⟩) N cd, .func (.func 26) #[] #[.pointer (some ⟨bF, 0, none⟩)]] w fun x w' => x = .returned (.tuple #[.int .i64 0, .int .i64 0]) ∧ Mod [] w w' := by
  have HN := Lib.hid (And.intro hN hgl)
  have HB := Lib.hid (And.intro hb hbA)
  have HF := Lib.hid (fun W (hm : Mod [] w W) => cells_every hb hc W hm)
  have HA := Lib.hid (fun W (hm : Mod [] w W) i (hi : i < N) => (show W.cell? ⟨bA, 0 + i * 2, none⟩ = some (.int .i64 ((i : Int) + 1)) ∧ W.cell? ⟨bA, 0 + i * 2 + 1, none⟩ = some (.int .i64 0) from
    ⟨by rw [hm.cell (p := ⟨bA, 0 + i * 2, none⟩) hbA (by simp)]; exact (hA i hi).1, by rw [hm.cell (p := ⟨bA, 0 + i * 2 + 1, none⟩) hbA (by simp)]; exact (hA i hi).2⟩))
  have T0 := Lib.hid (Own.start w)
  clear hN hgl hb hbA hc hA
  go_enter Tryz.func70, Tryz.ntmps70
  go_wp2_with fail
  go_loopg [11] N (fun gk i wr => ∃ k : Nat, k + gk = N ∧ i = .int .i64 (k : Int) ∧ Hid (Own w wr []))
  case atStart => exact ⟨0, by omega, rfl, T0.out⟩
  case round =>
    obtain ⟨k, hk, rfl, HT⟩ := hrel
    clear T0
    by_cases hkN : k < N
    · have k1 : decide ((k : Int) < (N : Int)) = true := decide_eq_true (by omega)
      obtain ⟨c0, c1⟩ := HA.out wr HT.out.mod k hkN
      rw [Nat.zero_add] at c0 c1
      have k2 : (0 : Int) ≤ k := by omega
      have k3 : decide (k < N) = true := decide_eq_true hkN
      have T1 := Lib.hid (HT.out.alloc #[.int .i64 ((k : Int) + 1), .int .i64 0] 51)
      have hlt : bA < wr.heap.size := Nat.lt_of_lt_of_le HB.out.2 HT.out.mod.size
      have HX : Hid (∀ W, Mod [] w W → Calls Tryz.prog 26 #[.int .i64 (k : Int), .agg #[.int .i64 ((k : Int) + 1), .int .i64 0], .pointer (some ⟨bF, 0, none⟩)] W fun x w' => x = .returned (.int .i64 0) ∧ Mod [] W w') := by
        intro W hm
        have hb : bF < W.heap.size := Nat.lt_of_lt_of_le HB.out.1 hm.size
        have hbA : bA < W.heap.size := Nat.lt_of_lt_of_le HB.out.2 hm.size
        cases k with
        | zero => exact font7_first bF u _ v3 v4 v5 v6 v7 v8 ga gl gc _ 0 W (by omega) (by omega) (by have := HN.out.2; omega) hb (HF.out W hm)
        | succ j => exact font7_next bF bA 0 N cc u v3 v4 v5 v6 v7 v8 ga gl gc _ 0 _ ((j : Int) + 1) j W (by have := HN.out.1; omega) (by omega) (by have := HN.out.2; omega) (by omega) (by omega) HN.out.1 (by omega) hb hbA (HF.out W hm) (HA.out W hm j (by omega)).1
      go_upto_region 4 with fail
      generalize wr.alloc (.cells #[.int .i64 ((k : Int) + 1), .int .i64 0] 51) = W1 at *
      obtain ⟨q0, q1, -, -⟩ := (T1.out.at 0 rfl).two
      generalize wr.heap.size = b7 at *
      clear c0 c1 HT
      go_wp2_with fail
      refine (HX.out _ T1.out.mod).mono ?_
      rintro e w2 ⟨rfl, m2⟩
      have T2 := Lib.hid (Own.left (l' := [(b7, #[.int .i64 ((k : Int) + 1), .int .i64 0], 51)]) (T1.out.call m2))
      clear q0 q1 m2 T1 HX
      have e1 : IntKind.i64.wrap ((k : Int) + 1) = (k : Int) + 1 := IntWalk.i64_in _ (by have := HN.out.1; omega)
      go_wp2_with fail
      go_roundg (gk - 1)
      case measure => omega
      case rel => exact ⟨k + 1, by omega, by simp, T2.out⟩
    · have hkN' : N = k := by omega
      subst hkN'
      have k1 : decide ((N : Int) < (N : Int)) = false := decide_eq_false (by omega)
      have HM := Lib.hid HT.out.mod
      clear HT HA HF HB
      go_wp2_with fail
      go_ret2
      exact ⟨rfl, HM.out⟩
end Go.Proofs.YtnknlhjghpgbcaaGreat

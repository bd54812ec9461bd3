/-
  check: a char that may be. No condition.
-/
import Derived.Test.YtnknlhjghpgbcaaGreatMono
import Derived.IntWalk
import Derived.WalkLawsBesides
import Derived.Deep.DeepCutAuto
namespace Go.Proofs.YtnknlhjghpgbcaaGreat
open Go.RowKit
set_option linter.unusedVariables false

theorem when_no (e : Int) (w : World) : Calls Tryz.prog 46 #[.bool false, .int .i64 e] w fun x w' => x = .returned (.int .i64 0) ∧ w = w' := by
  go_enter Tryz.func46, Tryz.ntmps46
  go_wp2_with fail
  go_ret
  exact ⟨rfl, rfl⟩

set_option maxHeartbeats 1000000 in
theorem isGlyph_yes (u v2 v3 v4 v5 v6 v7 v8 : Value) (ga : Option Addr) (gl gc : Nat) (g : Int) (w : World) (h0 : 0 ≤ g) (h1 : g < gl) :
    Calls Tryz.prog 56 #[.agg #[u, .slice ga gl gc, v2, v3, v4, v5, v6, v7, v8], .int .i64 g] w fun x w' => x = .returned (.bool true) ∧ Mod [] w w' := by
  have T := Lib.hid (own1 w #[u, .slice ga gl gc, v2, v3, v4, v5, v6, v7, v8] 33)
  have HM := Lib.hid T.out.mod
  have c1 := (T.out.at 0 rfl).cell 1
  have k1 : decide (0 ≤ g) = true := decide_eq_true h0
  have k2 : decide (g < (gl : Int)) = true := decide_eq_true h1
  go_enter Tryz.func56, Tryz.ntmps56
  go_wp2_with fail
  go_ret
  exact ⟨rfl, HM.out⟩

set_option maxHeartbeats 2000000 in
theorem char_yes (u v2 v3 v4 v5 v6 v7 v8 : Value) (ga : Option Addr) (gl gc : Nat) (r g : Int) (w : World) (hr : 0 ≤ r ∧ r ≤ 1114111) (h0 : 0 ≤ g) (h1 : g < gl) :
    Calls Tryz.prog 27 #[.agg #[u, .slice ga gl gc, v2, v3, v4, v5, v6, v7, v8], .agg #[.int .i64 r, .int .i64 g], .bool false] w fun x w' => x = .returned (.int .i64 0) ∧ Mod [] w w' := by
  have T := Lib.hid (own2 w #[u, .slice ga gl gc, v2, v3, v4, v5, v6, v7, v8] 33 #[.int .i64 r, .int .i64 g] 51)
  have HG := Lib.hid (fun W => isGlyph_yes u v2 v3 v4 v5 v6 v7 v8 ga gl gc g W h0 h1)
  have k1 : decide (r < 0) = false := decide_eq_false (by omega)
  have k2 : decide (1114111 < r) = false := decide_eq_false (by omega)
  clear hr h0 h1
  go_enter Tryz.func27, Tryz.ntmps27
  go_upto_region 1 with fail
  generalize (w.alloc (.cells #[u, .slice ga gl gc, v2, v3, v4, v5, v6, v7, v8] 33)).alloc (.cells #[.int .i64 r, .int .i64 g] 51) = W0 at *
  obtain ⟨c0, c1, -, -⟩ := (T.out.at 1 rfl).two
  have f0 := (T.out.at 0 rfl).cell 0
  have f1 := (T.out.at 0 rfl).cell 1
  have f2 := (T.out.at 0 rfl).cell 2
  have f3 := (T.out.at 0 rfl).cell 3
  have f4 := (T.out.at 0 rfl).cell 4
  have f5 := (T.out.at 0 rfl).cell 5
  have f6 := (T.out.at 0 rfl).cell 6
  have f7 := (T.out.at 0 rfl).cell 7
  have f8 := (T.out.at 0 rfl).cell 8
  go_wp2_with fail
  refine (HG.out _).mono ?_
  rintro e w1 ⟨rfl, m1⟩
  have HM := Lib.hid (T.out.mod.trans m1 (by simp))
  clear f0 f1 f2 f3 f4 f5 f6 f7 f8 c0 c1 T m1
  go_wp2_with fail
  refine (when_no _ _).mono ?_
  rintro e w2 ⟨rfl, rfl⟩
  go_wp2_with fail
  go_ret
  exact ⟨rfl, HM.out⟩

/-- What stands in a block, and goes on standing. -/
theorem cells_every {w : World} {b : Nat} {cs : Array Value} (hb : b < w.heap.size) (hc : ∀ i, w.cell? ⟨b, i, none⟩ = cs[i]?) : ∀ w', Mod [] w w' → ∀ i, w'.cell? ⟨b, i, none⟩ = cs[i]? :=
  fun w' hm i => by rw [hm.cell (p := ⟨b, i, none⟩) hb (by simp)]; exact hc i

set_option maxHeartbeats 4000000 in
theorem font7_first (bF : Nat) (u v2 v3 v4 v5 v6 v7 v8 : Value) (ga : Option Addr) (gl gc : Nat) (r g : Int) (w : World) (hr : 0 ≤ r ∧ r ≤ 1114111) (h0 : 0 ≤ g) (h1 : g < gl) (hb : bF < w.heap.size)
    (hc : ∀ i, w.cell? ⟨bF, i, none⟩ = (#[u, .slice ga gl gc, v2, v3, v4, v5, v6, v7, v8] : Array Value)[i]?) :
    Calls Tryz.prog 26 #[.int .i64 0, .agg #[.int .i64 r, .int .i64 g], .pointer (some ⟨bF, 0, none⟩)] w fun x w' => x = .returned (.int .i64 0) ∧ Mod [] w w' := by
  have T := Lib.hid (own1 w #[.int .i64 r, .int .i64 g] 51)
  have HC := Lib.hid (fun W => char_yes u v2 v3 v4 v5 v6 v7 v8 ga gl gc r g W hr h0 h1)
  have HF := Lib.hid (fun W (hm : Mod [] w W) => cells_every hb hc W hm)
  clear hr h0 h1 hc hb
  go_enter Tryz.func26, Tryz.ntmps26
  go_upto_region 1 with fail
  generalize w.alloc (.cells #[.int .i64 r, .int .i64 g] 51) = W0 at *
  have A0 := (T.out.at 0 rfl).every
  have F0 : ∀ W, Mod [] W0 W → ∀ i, W.cell? ⟨bF, i, none⟩ = (#[u, .slice ga gl gc, v2, v3, v4, v5, v6, v7, v8] : Array Value)[i]? := fun W hm => HF.out W (T.out.mod.trans hm (by simp))
  refine wp_region_mask 18 [true, true, true, true, true, true, true, true, true, true, true, true, true, true, true, true, true, true] [] (by kernel_rfl) (by kernel_rfl) (by simp) ?_
  simp only [pickM]
  refine steady_go (a' := ?_) (by kernel_rfl) ?_ (fun w' hw' K Q hK => ?_) ?_
  rotate_left 2
  · go_wp2_with fail; exact hK _ (Mod.refl _ _)
  rotate_left
  · rfl
  refine steady_go (a' := ?_) (by kernel_rfl) ?_ (fun w' hw' K Q hK => ?_) ?_
  rotate_left 2
  · go_wp2_with fail; exact hK _ (Mod.refl _ _)
  rotate_left
  · rfl
  refine steady_go (a' := ?_) (by kernel_rfl) ?_ (fun w' hw' K Q hK => ?_) ?_
  rotate_left 2
  · go_wp2_with fail; exact hK _ (Mod.refl _ _)
  rotate_left
  · rfl
  refine steady_go (a' := ?_) (by kernel_rfl) ?_ (fun w' hw' K Q hK => ?_) ?_
  rotate_left 2
  · go_wp2_with fail; exact hK _ (Mod.refl _ _)
  rotate_left
  · rfl
  refine steady_go (a' := ?_) (by kernel_rfl) ?_ (fun w' hw' K Q hK => ?_) ?_
  rotate_left 2
  · go_wp2_with fail; exact hK _ (Mod.refl _ _)
  rotate_left
  · rfl
  refine steady_pass (by kernel_rfl) (by kernel_rfl) ?_
  refine steady_pass (by kernel_rfl) (by kernel_rfl) ?_
  refine steady_pass (by kernel_rfl) (by kernel_rfl) ?_
  refine steady_pass (by kernel_rfl) (by kernel_rfl) ?_
  refine steady_pass (by kernel_rfl) (by kernel_rfl) ?_
  refine steady_pass (by kernel_rfl) (by kernel_rfl) ?_
  refine steady_pass (by kernel_rfl) (by kernel_rfl) ?_
  refine steady_pass (by kernel_rfl) (by kernel_rfl) ?_
  refine steady_pass (by kernel_rfl) (by kernel_rfl) ?_
  refine steady_pass (by kernel_rfl) (by kernel_rfl) ?_
  refine steady_go (a' := ?_) (by kernel_rfl) ?_ (fun w' hw' K Q hK => ?_) ?_
  rotate_left 2
  · go_wp2_with fail; exact hK _ (Mod.refl _ _)
  rotate_left
  · rfl
  refine steady_go (a' := ?_) (by kernel_rfl) ?_ (fun w' hw' K Q hK => ?_) ?_
  rotate_left 2
  · go_wp2_with fail
    refine ((calls_mod HC.out) _ hw').mono ?_
    rintro e w'' ⟨rfl, m''⟩
    go_wp2_with fail
    exact hK _ m''
  rotate_left
  · rfl
  refine steady_go (a' := ?_) (by kernel_rfl) ?_ (fun w' hw' K Q hK => ?_) ?_
  rotate_left 2
  · go_wp2_with fail; exact hK _ (Mod.refl _ _)
  rotate_left
  · rfl
  refine steady_done ?_
  refine lates_end (fun w' hw' _ => ?_)
  simp only [List.drop_succ_cons, List.drop_zero]
  have HM := Lib.hid (T.out.mod.trans hw' (by simp))
  clear A0 F0 HF T hw'
  go_wp2_with fail
  go_ret
  exact ⟨rfl, HM.out⟩

set_option maxHeartbeats 4000000 in
theorem font7_next (bF bA o cl cc : Nat) (u v3 v4 v5 v6 v7 v8 : Value) (ga : Option Addr) (gl gc : Nat) (r g n r' : Int) (k : Nat) (w : World) (hr : 0 ≤ r ∧ r ≤ 1114111) (h0 : 0 ≤ g) (h1 : g < gl) (hn : n = (k : Int) + 1) (hk : k < cl) (hcl : cl ≤ 1000000) (hr' : r' < r) (hb : bF < w.heap.size) (hbA : bA < w.heap.size)
    (hc : ∀ i, w.cell? ⟨bF, i, none⟩ = (#[u, .slice ga gl gc, .slice (some ⟨bA, o, none⟩) cl cc, v3, v4, v5, v6, v7, v8] : Array Value)[i]?) (hA : w.cell? ⟨bA, o + k * 2, none⟩ = some (.int .i64 r')) :
    Calls Tryz.prog 26 #[.int .i64 n, .agg #[.int .i64 r, .int .i64 g], .pointer (some ⟨bF, 0, none⟩)] w fun x w' => x = .returned (.int .i64 0) ∧ Mod [] w w' := by
  have T := Lib.hid (own1 w #[.int .i64 r, .int .i64 g] 51)
  have HC := Lib.hid (fun W => char_yes u (.slice (some ⟨bA, o, none⟩) cl cc) v3 v4 v5 v6 v7 v8 ga gl gc r g W hr h0 h1)
  have HF := Lib.hid (fun W (hm : Mod [] w W) => cells_every hb hc W hm)
  have HA := Lib.hid (fun W (hm : Mod [] w W) => (show W.cell? ⟨bA, o + k * 2, none⟩ = some (.int .i64 r') by rw [hm.cell (p := ⟨bA, o + k * 2, none⟩) hbA (by simp)]; exact hA))
  have e1 : IntKind.i64.wrap (n - 1) = (k : Int) := by rw [hn, Int.add_sub_cancel]; exact IntWalk.i64_in _ (by omega)
  have e2 : decide (0 < n) = true := decide_eq_true (by omega)
  have e3 : decide (r ≤ r') = false := decide_eq_false (by omega)
  have e4 : (0 : Int) ≤ k := by omega
  have e5 : decide (k < cl) = true := decide_eq_true hk
  clear hr h0 h1 hc hb hA hbA hn hcl hr'
  go_enter Tryz.func26, Tryz.ntmps26
  go_upto_region 1 with fail
  generalize w.alloc (.cells #[.int .i64 r, .int .i64 g] 51) = W0 at *
  have A0 := (T.out.at 0 rfl).every
  have F0 : ∀ W, Mod [] W0 W → ∀ i, W.cell? ⟨bF, i, none⟩ = (#[u, .slice ga gl gc, .slice (some ⟨bA, o, none⟩) cl cc, v3, v4, v5, v6, v7, v8] : Array Value)[i]? := fun W hm => HF.out W (T.out.mod.trans hm (by simp))
  have G0 : ∀ W, Mod [] W0 W → W.cell? ⟨bA, o + k * 2, none⟩ = some (.int .i64 r') := fun W hm => HA.out W (T.out.mod.trans hm (by simp))
  refine wp_region_mask 18 [true, true, true, true, true, true, true, true, true, true, true, true, true, true, true, true, true, true] [] (by kernel_rfl) (by kernel_rfl) (by simp) ?_
  simp only [pickM]
  refine steady_go (a' := ?_) (by kernel_rfl) ?_ (fun w' hw' K Q hK => ?_) ?_
  rotate_left 2
  · go_wp2_with fail; exact hK _ (Mod.refl _ _)
  rotate_left
  · rfl
  refine steady_go (a' := ?_) (by kernel_rfl) ?_ (fun w' hw' K Q hK => ?_) ?_
  rotate_left 2
  · go_wp2_with fail; exact hK _ (Mod.refl _ _)
  rotate_left
  · rfl
  refine steady_go (a' := ?_) (by kernel_rfl) ?_ (fun w' hw' K Q hK => ?_) ?_
  rotate_left 2
  · go_wp2_with fail; exact hK _ (Mod.refl _ _)
  rotate_left
  · rfl
  refine steady_go (a' := ?_) (by kernel_rfl) ?_ (fun w' hw' K Q hK => ?_) ?_
  rotate_left 2
  · go_wp2_with fail; exact hK _ (Mod.refl _ _)
  rotate_left
  · rfl
  refine steady_go (a' := ?_) (by kernel_rfl) ?_ (fun w' hw' K Q hK => ?_) ?_
  rotate_left 2
  · go_wp2_with fail; exact hK _ (Mod.refl _ _)
  rotate_left
  · rfl
  refine steady_go (a' := ?_) (by kernel_rfl) ?_ (fun w' hw' K Q hK => ?_) ?_
  rotate_left 2
  · go_wp2_with fail; exact hK _ (Mod.refl _ _)
  rotate_left
  · rfl
  refine steady_go (a' := ?_) (by kernel_rfl) ?_ (fun w' hw' K Q hK => ?_) ?_
  rotate_left 2
  · go_wp2_with fail; exact hK _ (Mod.refl _ _)
  rotate_left
  · rfl
  refine steady_go (a' := ?_) (by kernel_rfl) ?_ (fun w' hw' K Q hK => ?_) ?_
  rotate_left 2
  · go_wp2_with fail; exact hK _ (Mod.refl _ _)
  rotate_left
  · rfl
  refine steady_go (a' := ?_) (by kernel_rfl) ?_ (fun w' hw' K Q hK => ?_) ?_
  rotate_left 2
  · go_wp2_with fail; exact hK _ (Mod.refl _ _)
  rotate_left
  · rfl
  refine steady_go (a' := ?_) (by kernel_rfl) ?_ (fun w' hw' K Q hK => ?_) ?_
  rotate_left 2
  · go_wp2_with fail; exact hK _ (Mod.refl _ _)
  rotate_left
  · rfl
  refine steady_go (a' := ?_) (by kernel_rfl) ?_ (fun w' hw' K Q hK => ?_) ?_
  rotate_left 2
  · go_wp2_with fail; exact hK _ (Mod.refl _ _)
  rotate_left
  · rfl
  refine steady_go (a' := ?_) (by kernel_rfl) ?_ (fun w' hw' K Q hK => ?_) ?_
  rotate_left 2
  · go_wp2_with fail; exact hK _ (Mod.refl _ _)
  rotate_left
  · rfl
  refine steady_go (a' := ?_) (by kernel_rfl) ?_ (fun w' hw' K Q hK => ?_) ?_
  rotate_left 2
  · go_wp2_with fail; exact hK _ (Mod.refl _ _)
  rotate_left
  · rfl
  refine steady_go (a' := ?_) (by kernel_rfl) ?_ (fun w' hw' K Q hK => ?_) ?_
  rotate_left 2
  · go_wp2_with fail; exact hK _ (Mod.refl _ _)
  rotate_left
  · rfl
  refine steady_go (a' := ?_) (by kernel_rfl) ?_ (fun w' hw' K Q hK => ?_) ?_
  rotate_left 2
  · go_wp2_with fail; exact hK _ (Mod.refl _ _)
  rotate_left
  · rfl
  refine steady_go (a' := ?_) (by kernel_rfl) ?_ (fun w' hw' K Q hK => ?_) ?_
  rotate_left 2
  · go_wp2_with fail; exact hK _ (Mod.refl _ _)
  rotate_left
  · rfl
  refine steady_go (a' := ?_) (by kernel_rfl) ?_ (fun w' hw' K Q hK => ?_) ?_
  rotate_left 2
  · go_wp2_with fail
    refine ((calls_mod HC.out) _ hw').mono ?_
    rintro e w'' ⟨rfl, m''⟩
    go_wp2_with fail
    exact hK _ m''
  rotate_left
  · rfl
  refine steady_go (a' := ?_) (by kernel_rfl) ?_ (fun w' hw' K Q hK => ?_) ?_
  rotate_left 2
  · go_wp2_with fail; exact hK _ (Mod.refl _ _)
  rotate_left
  · rfl
  refine steady_done ?_
  refine lates_end (fun w' hw' _ => ?_)
  simp only [List.drop_succ_cons, List.drop_zero]
  have HM := Lib.hid (T.out.mod.trans hw' (by simp))
  clear A0 F0 G0 HF HA T hw'
  go_wp2_with fail
  go_ret
  exact ⟨rfl, HM.out⟩
end Go.Proofs.YtnknlhjghpgbcaaGreat

/- ratio: told, Make, right. -/
import Derived.Test.YtngeijdfpgmcfaaRatSum
import Derived.Deep.RegionWith
namespace Go.Proofs.Ytngeijdfpgmcfaa
open Go.RowKit

namespace Rat
/-- What told tells: N, D, and whether there is such a ratio. -/
def toldR (m : Bool) (n d : Nat) : Int × Int × Bool :=
  if n ≤ 9223372036854775807 ∧ d ≤ 9223372036854775807 then ((if m then -(n : Int) else n), (d : Int), true) else (0, 0, false)
end Rat

set_option maxHeartbeats 1000000 in
theorem told_gen (m : Bool) (h l h' l' NA NB : Nat) (w : World) (hl : l < 18446744073709551616) (hl' : l' < 18446744073709551616) (eA : NA = h * 18446744073709551616 + l) (eB : NB = h' * 18446744073709551616 + l') :
    Calls Try.prog 33 #[.bool m, .agg #[.int .u64 h, .int .u64 l], .agg #[.int .u64 h', .int .u64 l']] w fun e w' =>
      e = .returned (.tuple #[.agg #[.int .i64 (Rat.toldR m NA NB).1, .int .i64 (Rat.toldR m NA NB).2.1], .bool (Rat.toldR m NA NB).2.2]) ∧ Mod [] w w' := by
  have MN : Hid (∀ a b, Mod [] w (((w.alloc (.cells #[.int .u64 h, .int .u64 l] 96)).alloc (.cells #[.int .u64 h', .int .u64 l'] 96)).alloc (.cells #[a, b] 51))) := fun a b => (((Mod.refl [] w).alloc _).alloc _).alloc _
  have MY : Hid (∀ a b c d, Mod [] w ((((w.alloc (.cells #[.int .u64 h, .int .u64 l] 96)).alloc (.cells #[.int .u64 h', .int .u64 l'] 96)).alloc (.cells #[a, b] 51)).alloc (.cells #[c, d] 51))) := fun a b c d => ((((Mod.refl [] w).alloc _).alloc _).alloc _).alloc _
  by_cases hb : h = 0 ∧ l ≤ 9223372036854775807 ∧ h' = 0 ∧ l' ≤ 9223372036854775807
  · obtain ⟨h1, h2, h3, h4⟩ := hb
    have HT := Lib.hid (show Rat.toldR m NA NB = ((if m then -(l : Int) else l), (l' : Int), true) by
      have e1 : NA = l := by omega
      have e2 : NB = l' := by omega
      unfold Rat.toldR; rw [e1, e2, if_pos ⟨h2, h4⟩])
    have d1 : decide ((0 : Int) < h) = false := by simp; omega
    have d3 : decide ((0 : Int) < h') = false := by simp; omega
    have d1' : decide (0 < h) = false := by simp; omega
    have d3' : decide (0 < h') = false := by simp; omega
    have d2 : decide ((9223372036854775807 : Int) < l) = false := by simp; omega
    have d4 : decide ((9223372036854775807 : Int) < l') = false := by simp; omega
    clear h1 h3 eA eB
    cases m with
    | true =>
      go_enter Try.func33, Try.ntmps33
      go_wp2_with fail
      refine bodyPost_ret (v := .tuple #[.agg #[.int .i64 (-(l : Int)), .int .i64 l'], .bool true]) (by simp [results, Try.results33, go_sem]) rfl ⟨by rw [HT.out]; rfl, MY.out _ _ _ _⟩
    | false =>
      go_enter Try.func33, Try.ntmps33
      go_wp2_with fail
      refine bodyPost_ret (v := .tuple #[.agg #[.int .i64 (l : Int), .int .i64 l'], .bool true]) (by simp [results, Try.results33, go_sem]) rfl ⟨by rw [HT.out]; rfl, MY.out _ _ _ _⟩
  · have HT := Lib.hid (show Rat.toldR m NA NB = (0, 0, false) by unfold Rat.toldR; rw [if_neg (by omega)])
    clear eA eB
    by_cases c1 : 0 < h
    · have d1 : decide ((0 : Int) < h) = true := by simp; omega
      have d1' : decide (0 < h) = true := by simp; omega
      clear hb
      go_enter Try.func33, Try.ntmps33
      go_wp2_with fail
      refine bodyPost_ret (v := .tuple #[.agg #[.int .i64 0, .int .i64 0], .bool false]) (by simp [results, Try.results33, go_sem]) rfl ⟨by rw [HT.out], MN.out _ _⟩
    · have d1 : decide ((0 : Int) < h) = false := by simp; omega
      have d1' : decide (0 < h) = false := by simp; omega
      by_cases c2 : 9223372036854775807 < l
      · have d2 : decide ((9223372036854775807 : Int) < l) = true := by simp; omega
        clear hb
        go_enter Try.func33, Try.ntmps33
        go_wp2_with fail
        refine bodyPost_ret (v := .tuple #[.agg #[.int .i64 0, .int .i64 0], .bool false]) (by simp [results, Try.results33, go_sem]) rfl ⟨by rw [HT.out], MN.out _ _⟩
      · have d2 : decide ((9223372036854775807 : Int) < l) = false := by simp; omega
        by_cases c3 : 0 < h'
        · have d3 : decide ((0 : Int) < h') = true := by simp; omega
          have d3' : decide (0 < h') = true := by simp; omega
          clear hb
          go_enter Try.func33, Try.ntmps33
          go_wp2_with fail
          refine bodyPost_ret (v := .tuple #[.agg #[.int .i64 0, .int .i64 0], .bool false]) (by simp [results, Try.results33, go_sem]) rfl ⟨by rw [HT.out], MN.out _ _⟩
        · have d3 : decide ((0 : Int) < h') = false := by simp; omega
          have d3' : decide (0 < h') = false := by simp; omega
          have d4 : decide ((9223372036854775807 : Int) < l') = true := by simp; omega
          clear hb
          go_enter Try.func33, Try.ntmps33
          go_wp2_with fail
          refine bodyPost_ret (v := .tuple #[.agg #[.int .i64 0, .int .i64 0], .bool false]) (by simp [results, Try.results33, go_sem]) rfl ⟨by rw [HT.out], MN.out _ _⟩

theorem told0 (m : Bool) (l l' : Nat) (w : World) (hl : l < 18446744073709551616) (hl' : l' < 18446744073709551616) :
    Calls Try.prog 33 #[.bool m, .agg #[.int .u64 0, .int .u64 l], .agg #[.int .u64 0, .int .u64 l']] w fun e w' =>
      e = .returned (.tuple #[.agg #[.int .i64 (Rat.toldR m l l').1, .int .i64 (Rat.toldR m l l').2.1], .bool (Rat.toldR m l l').2.2]) ∧ Mod [] w w' :=
  told_gen m 0 l 0 l' l l' w hl hl' (by omega) (by omega)

namespace Rat
/-- What Make tells. -/
def makeR (n d : Int) : Int × Int × Bool :=
  if d = 0 then (0, 0, false) else toldR (decide (n < 0) != decide (d < 0)) (n.natAbs / Nat.gcd n.natAbs d.natAbs) (d.natAbs / Nat.gcd n.natAbs d.natAbs)
end Rat

set_option maxHeartbeats 1000000 in
theorem make_any (n d : Int) (w : World) (hn : -9223372036854775808 ≤ n ∧ n ≤ 9223372036854775807) (hd : -9223372036854775808 ≤ d ∧ d ≤ 9223372036854775807) :
    Calls Try.prog 18 #[.int .i64 n, .int .i64 d] w fun e w' =>
      e = .returned (.tuple #[.agg #[.int .i64 (Rat.makeR n d).1, .int .i64 (Rat.makeR n d).2.1], .bool (Rat.makeR n d).2.2]) ∧ Mod [] w w' := by
  have M0 := Lib.hid ((Mod.refl [] w).alloc (.cells #[.int .i64 0, .int .i64 0] 51))
  by_cases h0 : d = 0
  · have d0 : (d == 0) = true := by simpa using h0
    have HT := Lib.hid (show Rat.makeR n d = (0, 0, false) by unfold Rat.makeR; rw [if_pos h0])
    clear h0
    go_enter Try.func18, Try.ntmps18
    go_wp2_with fail
    refine bodyPost_ret (v := .tuple #[.agg #[.int .i64 0, .int .i64 0], .bool false]) (by simp [results, Try.results18, go_sem]) rfl ⟨by rw [HT.out], M0.out⟩
  · have d0 : (d == 0) = false := by simpa using h0
    have HT := Lib.hid (show Rat.makeR n d = Rat.toldR (decide (n < 0) != decide (d < 0)) (n.natAbs / Nat.gcd n.natAbs d.natAbs) (d.natAbs / Nat.gcd n.natAbs d.natAbs) by unfold Rat.makeR; rw [if_neg h0])
    have hg : 0 < Nat.gcd n.natAbs d.natAbs := Nat.gcd_pos_of_pos_right _ (by omega)
    have hgA : Nat.gcd n.natAbs d.natAbs ≤ d.natAbs := Nat.gcd_le_right _ (by omega)
    have ha : n.natAbs < 18446744073709551616 := by omega
    have hb : d.natAbs < 18446744073709551616 := by omega
    have HD := Lib.hid (fun W => divisor_any n.natAbs d.natAbs W ha hb)
    have HSn := Lib.hid (fun W => size_any n W hn.1 hn.2)
    have HSd := Lib.hid (fun W => size_any d W hd.1 hd.2)
    clear h0
    generalize Nat.gcd n.natAbs d.natAbs = g at *
    generalize n.natAbs = x at *
    generalize d.natAbs = y at *
    obtain ⟨qa, hqa⟩ : ∃ qa, qa = x / g := ⟨_, rfl⟩
    obtain ⟨qb, hqb⟩ : ∃ qb, qb = y / g := ⟨_, rfl⟩
    have hqa1 : qa < 18446744073709551616 := by rw [hqa]; exact Nat.lt_of_le_of_lt (Nat.div_le_self _ _) ha
    have hqb1 : qb < 18446744073709551616 := by rw [hqb]; exact Nat.lt_of_le_of_lt (Nat.div_le_self _ _) hb
    have r1 : IntKind.u64.wrap ((x : Int) / (g : Int)) = (qa : Int) := by rw [← Int.natCast_ediv, ← hqa, Bits.wrapN _ hqa1]
    have r2 : IntKind.u64.wrap ((y : Int) / (g : Int)) = (qb : Int) := by rw [← Int.natCast_ediv, ← hqb, Bits.wrapN _ hqb1]
    have g0 : ((g : Int) == 0) = false := by simp; omega
    have g1 : (0 : Int) < g := by omega
    have g2 : ¬ g = 0 := by omega
    have g3 : ¬ (g : Int) = 0 := by omega
    have t1 : IntKind.u64.wrap ((x : Int).tdiv (g : Int)) = (qa : Int) := by rw [Int.tdiv_eq_ediv_of_nonneg (by omega)]; exact r1
    have t2 : IntKind.u64.wrap ((y : Int).tdiv (g : Int)) = (qb : Int) := by rw [Int.tdiv_eq_ediv_of_nonneg (by omega)]; exact r2
    rw [← hqa, ← hqb] at HT
    have EQ := Lib.hid hqa
    clear hqa hqb
    go_enter Try.func18, Try.ntmps18
    go_wp2_with fail
    refine (HSn.out _).mono ?_
    rintro e w1 ⟨rfl, rfl⟩
    go_wp2_with fail
    refine (HSd.out _).mono ?_
    rintro e w1 ⟨rfl, rfl⟩
    go_wp2_with fail
    refine (HD.out _).mono ?_
    rintro e w1 ⟨rfl, k1, rfl⟩
    have BR := Lib.hid ((Blk.new w #[.int .i64 0, .int .i64 0] 51).drewN k1)
    have M1 := Lib.hid (M0.out.drewN k1)
    clear M0
    generalize (w.alloc (.cells #[.int .i64 0, .int .i64 0] 51)).drewN k1 = W at *
    go_wp2_with fail
    go_region_held3 (fun _ => True) (trivial) (first | (go_at_call_of 32 (Value.int IntKind.i64 n); refine (HSn.out _).mono ?_; rintro e w1 ⟨rfl, rfl⟩) | (go_at_call_of 32 (Value.int IntKind.i64 d); refine (HSd.out _).mono ?_; rintro e w1 ⟨rfl, rfl⟩) | (go_at_call 33; refine (told0 _ qa qb _ hqa1 hqb1).mono ?_; rintro e w1 ⟨rfl, m1⟩; obtain ⟨r0, r1, z0, z1⟩ := (BR.out.drew.kept m1 (by simp)).two))
    have M2 := M1.out.drew.then m1
    go_wp2_with fail
    refine bodyPost_ret (v := .tuple #[.agg #[.int .i64 (Rat.toldR (!(decide (n < 0) == decide (d < 0))) qa qb).1, .int .i64 (Rat.toldR (!(decide (n < 0) == decide (d < 0))) qa qb).2.1], .bool (Rat.toldR (!(decide (n < 0) == decide (d < 0))) qa qb).2.2]) (by simp [results, Try.results18, go_sem, r0, r1]) rfl ⟨by rw [HT.out]; rfl, ?_⟩
    exact (M2.setNew (by simp) _).setNew (by simp) _
end Go.Proofs.Ytngeijdfpgmcfaa

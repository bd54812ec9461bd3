/- The reference's Scale. -/
import Derived.Test.YtiigcilmpclclaaBigHalf
namespace Go.Proofs.Ytiigcilmpclclaa
open Go.RowKit
set_option linter.unusedVariables false

theorem NumV.box {z : Int} {v : Value} {W : World} {b : Nat} {x : Bool} {oa : Option Addr} {n c : Nat} {t : TypeId} (h : NumV z v W) (B : Blk W b #[.bool x, .slice oa n c] t) (y : Bool) (oa' : Option Addr) (n' c' : Nat) :
    NumV z v ((W.setCell ⟨b, 0, none⟩ (.bool y)).setCell ⟨b, 1, none⟩ (.slice oa' n' c')) := by
  obtain ⟨s, h1, h2⟩ := h
  have hs : ∀ (a : Option Addr) (k c d : Nat), Value.slice a k c ≠ dcell d := fun a k c d h => by simp [dcell] at h
  exact ⟨s, h1, (h2.set_box B (hs _ _ _) 0 _).set_box (B.set 0 _) (hs _ _ _) 1 _⟩
theorem NumV.alloc {z : Int} {v : Value} {W : World} (h : NumV z v W) (o : Obj) : NumV z v (W.alloc o) := h.mod ((Mod.refl [] W).alloc o)

set_option maxHeartbeats 2000000 in
theorem scaleRef_any (n a b : Int) (w : World) (hn : -9223372036854775808 ≤ n ∧ n ≤ 9223372036854775807) (ha : -9223372036854775808 ≤ a ∧ a ≤ 9223372036854775807) (hb : -9223372036854775808 ≤ b ∧ b ≤ 9223372036854775807) :
    Calls Try.prog 17 #[.int .i64 n, .int .i64 a, .int .i64 b] w fun e w' => e = .returned (.tuple #[.int .i64 (Rat.scaleR n a b).1, .bool (Rat.scaleR n a b).2]) ∧ Mod [] w w' := by
  by_cases h0 : b = 0
  · have hr : Rat.scaleR n a b = (0, false) := by unfold Rat.scaleR; rw [if_pos h0]
    have k0 : (b == 0) = true := by simpa using h0
    rw [hr]
    clear hr h0
    go_enter Try.func17, Try.ntmps17
    go_wp2_with fail
    exact bodyPost_ret (v := .tuple #[.int .i64 0, .bool false]) (by simp [results, Try.results17, go_sem]) rfl ⟨rfl, Mod.refl _ _⟩
  · have k0 : (b == 0) = false := by simpa using h0
    rw [Rat.scaleR_eq h0]
    obtain ⟨f, hf⟩ : ∃ f, Rat.fits (Rat.half (if b < 0 then -(n * a) else n * a) (b.natAbs : Int)) = f := ⟨_, rfl⟩
    rw [hf]
    obtain ⟨fa, fb⟩ := f
    have HFF := Lib.hid hf
    clear hf
    have l1 := dig_i64 hn.1 hn.2
    have l2 := dig_i64 ha.1 ha.2
    have l3 := dig_i64 hb.1 hb.2
    have l4 := dig_mul l1 l2
    have H1 := Lib.hid (of_v n hn.1 hn.2)
    have H2 := Lib.hid (of_v a ha.1 ha.2)
    have H3 := Lib.hid (of_v b hb.1 hb.2)
    have H4 := Lib.hid (fun W u v (hu : NumV n u W) (hv : NumV a v W) => times_v hu hv (by omega) (by omega))
    have HL := Lib.hid (And.intro l4 l3)
    have HB0 := Lib.hid h0
    clear hn ha hb l1 l2 l3 l4 h0
    go_enter Try.func17, Try.ntmps17
    go_wp2_with fail
    refine (H1.out _).mono ?_
    rintro e w1 ⟨v1, rfl, h1, m1⟩
    have G1 := Lib.hid (And.intro h1 m1)
    clear h1 m1 H1
    go_wp2_with fail
    refine (H2.out _).mono ?_
    rintro e w2 ⟨v2, rfl, h2, m2⟩
    have G2 := Lib.hid (And.intro h2 m2)
    clear h2 m2 H2
    go_wp2_with fail
    refine (H4.out _ _ _ (G1.out.1.mod G2.out.2) G2.out.1).mono ?_
    rintro e w3 ⟨v3, rfl, h3, m3⟩
    refine NumV.elim h3 (fun xa xn xc he hs => ?_)
    subst he
    obtain ⟨bx, hbx⟩ : ∃ t, t = decide (n * a < 0) := ⟨_, rfl⟩
    rw [← hbx] at h3 ⊢
    have T3 := Lib.hid (((Own.start w).call ((G1.out.2.then G2.out.2).then m3)).alloc #[.bool bx, .slice xa xn xc] 54)
    have X3 := Lib.hid (h3.alloc (.cells #[.bool bx, .slice xa xn xc] 54))
    clear h3 m3 hs hbx G1 G2 H4
    go_upto_region 4 with fail
    generalize w3.alloc (.cells #[.bool bx, .slice xa xn xc] 54) = W3 at *
    generalize w3.heap.size = b8 at *
    go_wp2_with fail
    refine (H3.out _).mono ?_
    rintro e w4 ⟨v4, rfl, h4, m4⟩
    refine NumV.elim h4 (fun da dn dc he hs => ?_)
    subst he
    obtain ⟨bd, hbd⟩ : ∃ t, t = decide (b < 0) := ⟨_, rfl⟩
    rw [← hbd] at h4 ⊢
    have HBD := Lib.hid hbd
    have T4 := Lib.hid ((T3.out.call m4).alloc #[.bool bd, .slice da dn dc] 54)
    have X4 := Lib.hid ((X3.out.mod m4).alloc (.cells #[.bool bd, .slice da dn dc] 54))
    have D4 := Lib.hid (h4.alloc (.cells #[.bool bd, .slice da dn dc] 54))
    clear h4 m4 hs hbd H3 T3 X3
    go_upto_region 5 with fail
    generalize w4.alloc (.cells #[.bool bd, .slice da dn dc] 54) = W4 at *
    generalize w4.heap.size = b9 at *
    by_cases hneg : b < 0
    · have k1 : decide (b < 0) = true := decide_eq_true hneg
      have HFI : Hid (∀ u v W, NumV (-(n * a)) u W → NumV (-b) v W → Calls Try.prog 40 #[u, v] W fun e w' => e = .returned (.tuple #[.int .i64 fa, .bool fb]) ∧ Mod [] W w') := by
        refine Lib.hid fun u v W hu hv => ?_
        have h := half_any u v _ _ W hu hv (dig_neg (Nat.le_trans HL.out.1 (by omega))) (dig_neg (Nat.le_trans HL.out.2 (by omega))) (by omega)
        have e1 := HFF.out
        rw [if_pos hneg, show ((b.natAbs : Nat) : Int) = -b by omega] at e1
        rw [e1] at h
        exact h
      have HN1 := Lib.hid (fun u W (hu : NumV (n * a) u W) => neg_v hu (Nat.le_trans HL.out.1 (by omega)))
      have HN2 := Lib.hid (fun u W (hu : NumV b u W) => neg_v hu (Nat.le_trans HL.out.2 (by omega)))
      clear HL HB0 HBD hneg HFF
      obtain ⟨p0, p1, z0, z1⟩ := (T4.out.at 0 rfl).two
      go_wp2_with fail
      refine (HN1.out _ _ X4.out).mono ?_
      rintro e w5 ⟨v5, rfl, h5, m5⟩
      refine NumV.elim h5 (fun xa' xn' xc' he hs => ?_)
      subst he
      obtain ⟨bx', hbx⟩ : ∃ t, t = decide (-(n * a) < 0) := ⟨_, rfl⟩
      rw [← hbx] at h5 ⊢
      have T5 := Lib.hid (T4.out.call m5)
      have T6 := Lib.hid ((T5.out.set 0 rfl 0 (.bool bx')).set 0 rfl 1 (.slice xa' xn' xc'))
      have X6 := Lib.hid (h5.box (T5.out.at 0 rfl) bx' xa' xn' xc')
      have D6 := Lib.hid ((D4.out.mod m5).box (T5.out.at 0 rfl) bx' xa' xn' xc')
      clear p0 p1 z0 z1 h5 m5 hs hbx T4 X4 D4 HN1
      obtain ⟨p0, p1, z0, z1⟩ := (T5.out.at 0 rfl).two
      go_upto_region 7 with fail
      generalize (w5.setCell ⟨b8, 0, none⟩ (.bool bx')).setCell ⟨b8, 1, none⟩ (.slice xa' xn' xc') = W6 at *
      clear p0 p1 z0 z1 T5
      obtain ⟨p0, p1, z0, z1⟩ := (T6.out.at 1 rfl).two
      go_wp2_with fail
      refine (HN2.out _ _ D6.out).mono ?_
      rintro e w7 ⟨v7, rfl, h7, m7⟩
      refine NumV.elim h7 (fun da' dn' dc' he hs => ?_)
      subst he
      obtain ⟨bd', hbd⟩ : ∃ t, t = decide (-b < 0) := ⟨_, rfl⟩
      rw [← hbd] at h7 ⊢
      have T7 := Lib.hid (T6.out.call m7)
      have T8 := Lib.hid ((T7.out.set 1 rfl 0 (.bool bd')).set 1 rfl 1 (.slice da' dn' dc'))
      have D8 := Lib.hid (h7.box (T7.out.at 1 rfl) bd' da' dn' dc')
      have X8 := Lib.hid ((X6.out.mod m7).box (T7.out.at 1 rfl) bd' da' dn' dc')
      clear p0 p1 z0 z1 h7 m7 hs hbd T6 X6 D6 HN2
      obtain ⟨p0, p1, z0, z1⟩ := (T7.out.at 1 rfl).two
      go_upto_region 8 with fail
      generalize (w7.setCell ⟨b9, 0, none⟩ (.bool bd')).setCell ⟨b9, 1, none⟩ (.slice da' dn' dc') = W8 at *
      clear p0 p1 z0 z1 T7
      obtain ⟨p0, p1, -, -⟩ := (T8.out.at 0 rfl).two
      obtain ⟨q0, q1, -, -⟩ := (T8.out.at 1 rfl).two
      go_wp2_with fail
      refine (HFI.out _ _ _ X8.out D8.out).mono ?_
      rintro e w9 ⟨rfl, m9⟩
      have M9 := Lib.hid (T8.out.call m9).mod
      clear m9 p0 p1 q0 q1 T8 X8 D8 HFI
      go_wp2_with fail
      exact bodyPost_ret (v := .tuple #[.int .i64 fa, .bool fb]) (by simp [results, Try.results17, go_sem]) rfl ⟨rfl, M9.out⟩
    · have k1 : decide (b < 0) = false := decide_eq_false hneg
      have HFI : Hid (∀ u v W, NumV (n * a) u W → NumV b v W → Calls Try.prog 40 #[u, v] W fun e w' => e = .returned (.tuple #[.int .i64 fa, .bool fb]) ∧ Mod [] W w') := by
        refine Lib.hid fun u v W hu hv => ?_
        have h0 := HB0.out
        have h := half_any u v _ _ W hu hv (Nat.le_trans HL.out.1 (by omega)) (Nat.le_trans HL.out.2 (by omega)) (by omega)
        have e1 := HFF.out
        rw [if_neg hneg, show ((b.natAbs : Nat) : Int) = b by omega] at e1
        rw [e1] at h
        exact h
      clear HL HB0 HBD hneg HFF
      obtain ⟨p0, p1, -, -⟩ := (T4.out.at 0 rfl).two
      obtain ⟨q0, q1, -, -⟩ := (T4.out.at 1 rfl).two
      go_wp2_with fail
      refine (HFI.out _ _ _ X4.out D4.out).mono ?_
      rintro e w9 ⟨rfl, m9⟩
      have M9 := Lib.hid (T4.out.call m9).mod
      clear m9 p0 p1 q0 q1 T4 X4 D4 HFI
      go_wp2_with fail
      exact bodyPost_ret (v := .tuple #[.int .i64 fa, .bool fb]) (by simp [results, Try.results17, go_sem]) rfl ⟨rfl, M9.out⟩
end Go.Proofs.Ytiigcilmpclclaa

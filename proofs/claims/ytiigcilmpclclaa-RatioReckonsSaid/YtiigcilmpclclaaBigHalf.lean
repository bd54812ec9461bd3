/- The reference's Half, Scale, Floor, Round and Cmp. -/
import Derived.Test.YtiigcilmpclclaaBigMake
import Derived.Test.YtiigcilmpclclaaRatWhole
namespace Go.Proofs.Ytiigcilmpclclaa
open Go.RowKit
set_option linter.unusedVariables false

theorem dig_lt {z : Int} {k : Nat} (h : (Big.dig z.natAbs).length ≤ k) : z.natAbs < 65536 ^ k := Nat.lt_of_lt_of_le (Big.dig_lt_pow _) (Nat.pow_le_pow_right (by omega) h)
theorem dig_add {x y : Int} {k : Nat} (hx : (Big.dig x.natAbs).length ≤ k) (hy : (Big.dig y.natAbs).length ≤ k) : (Big.dig (x + y).natAbs).length ≤ k + 1 := by
  apply Big.dig_length_le
  have h1 := dig_lt hx
  have h2 := dig_lt hy
  rw [Nat.pow_succ]
  omega
theorem dig_mul {x y : Int} {j k : Nat} (hx : (Big.dig x.natAbs).length ≤ j) (hy : (Big.dig y.natAbs).length ≤ k) : (Big.dig (x * y).natAbs).length ≤ j + k := by
  apply Big.dig_length_le
  rw [Int.natAbs_mul, Nat.pow_add]
  exact Nat.mul_lt_mul'' (dig_lt hx) (dig_lt hy)
theorem dig_neg {x : Int} {k : Nat} (hx : (Big.dig x.natAbs).length ≤ k) : (Big.dig (-x).natAbs).length ≤ k := by rw [Int.natAbs_neg]; exact hx

/-- Two numbers, as a call gives them. -/
def PairV (p q : Int) (v : Value) (w : World) : Prop := ∃ a b, v = .tuple #[a, b] ∧ NumV p a w ∧ NumV q b w
theorem PairV.stays (p q : Int) (v : Value) : Stays (PairV p q v) := fun _ _ ⟨a, b, h1, h2, h3⟩ m => ⟨a, b, h1, h2.mod m, h3.mod m⟩
theorem PairV.elim {p q : Int} {v : Value} {w : World} {G : Prop} (h : PairV p q v w) (k : ∀ a b, v = .tuple #[a, b] → NumV p a w → NumV q b w → G) : G := by
  obtain ⟨a, b, h1, h2, h3⟩ := h; exact k a b h1 h2 h3
theorem NumV.elim {z : Int} {v : Value} {w : World} {G : Prop} (h : NumV z v w) (k : ∀ oa n c, v = .agg #[.bool (decide (z < 0)), .slice oa n c] → Sl w (.slice oa n c) ((Big.dig z.natAbs).map dcell) → G) : G := by
  obtain ⟨oa, n, c, h1, h2⟩ := NumZ.form h; exact k oa n c h1 h2
theorem numz_v {z : Int} {w w' : World} {e : Ending} (h : NumPost z w e w') : ∃ v, e = .returned v ∧ NumV z v w' ∧ Mod [] w w' := h.numz
theorem plus_v {u v : Value} {x y : Int} {w : World} (hu : NumV x u w) (hv : NumV y v w) (hx : (Big.dig x.natAbs).length ≤ 1000) (hy : (Big.dig y.natAbs).length ≤ 1000) :
    Calls Try.prog 47 #[u, v] w fun e w' => ∃ r, e = .returned r ∧ NumV (x + y) r w' ∧ Mod [] w w' := (plus_num u v x y w hu hv hx hy).mono fun e w' h => numz_v h
theorem times_v {u v : Value} {x y : Int} {w : World} (hu : NumV x u w) (hv : NumV y v w) (hx : (Big.dig x.natAbs).length ≤ 500) (hy : (Big.dig y.natAbs).length ≤ 500) :
    Calls Try.prog 38 #[u, v] w fun e w' => ∃ r, e = .returned r ∧ NumV (x * y) r w' ∧ Mod [] w w' := (times_num u v x y w hu hv hx hy).mono fun e w' h => numz_v h
theorem neg_v {u : Value} {x : Int} {w : World} (hu : NumV x u w) (hx : (Big.dig x.natAbs).length ≤ 3000) :
    Calls Try.prog 39 #[u] w fun e w' => ∃ r, e = .returned r ∧ NumV (-x) r w' ∧ Mod [] w w' := (neg_any u x w hu hx).mono fun e w' h => numz_v h
theorem parts_v {u v : Value} {x y : Int} {w : World} (hu : NumV x u w) (hv : NumV y v w) (hx : (Big.dig x.natAbs).length ≤ 100) (hy : (Big.dig y.natAbs).length ≤ 100) (hy0 : 0 < y) :
    Calls Try.prog 49 #[u, v] w fun e w' => ∃ r, e = .returned r ∧ PairV (x / y) (x % y) r w' ∧ Mod [] w w' :=
  (parts_num u v x y w hu hv hx hy hy0).mono fun e w' ⟨qa, qn, qc, ra, rn, rc, h1, h2, h3, _, _, m⟩ => ⟨_, h1, ⟨_, _, rfl, ⟨_, rfl, h2⟩, ⟨_, rfl, h3⟩⟩, m⟩
theorem intR_fits (z : Int) : (if (Big.intR z).2 then (Big.intR z).1 else 0, (Big.intR z).2) = Rat.fits z := by
  unfold Big.intR Rat.fits
  by_cases h : -9223372036854775808 ≤ z ∧ z ≤ 9223372036854775807
  · have hz : z.natAbs < 18446744073709551616 := by omega
    rw [if_pos h, if_pos hz]
    simp only [h, and_self, decide_true, if_true]
    rw [show IntKind.i64.wrap z = z from IntWalk.i64_in _ h]
  · rw [if_neg h]
    split
    · simp [h]
    · simp

theorem natAbs_ediv_le (a b : Int) (hb : 0 < b) : (a / b).natAbs ≤ a.natAbs := by
  rcases Int.le_total 0 a with h | h
  · have h1 : 0 ≤ a / b := Int.ediv_nonneg h (by omega)
    have h2 : a / b ≤ a := Int.ediv_le_self b h
    omega
  · have h1 : a ≤ a / b := by
      rw [Int.le_ediv_iff_mul_le hb]
      have : a * b ≤ a * 1 := Int.mul_le_mul_of_nonpos_left h (by omega)
      omega
    have h2 : a / b ≤ 0 := by
      have : a / b ≤ 0 / b := Int.ediv_le_ediv hb h
      simpa using this
    omega

set_option maxHeartbeats 2000000 in
theorem half_any (u v : Value) (x y : Int) (w : World) (hu : NumV x u w) (hv : NumV y v w) (hx : (Big.dig x.natAbs).length ≤ 50) (hy : (Big.dig y.natAbs).length ≤ 50) (hy0 : 0 < y) :
    Calls Try.prog 40 #[u, v] w fun e w' => e = .returned (.tuple #[.int .i64 (Rat.fits (Rat.half x y)).1, .bool (Rat.fits (Rat.half x y)).2]) ∧ Mod [] w w' := by
  have hh : Rat.half x y = (x + x + y) / (y + y) := by unfold Rat.half; congr 1 <;> omega
  obtain ⟨oa, n, c, rfl, hs⟩ := NumZ.form hu
  obtain ⟨ob, n2, c2, rfl, hs2⟩ := NumZ.form hv
  obtain ⟨bx, hbx⟩ : ∃ b, b = decide (x < 0) := ⟨_, rfl⟩
  obtain ⟨by', hby⟩ : ∃ b, b = decide (y < 0) := ⟨_, rfl⟩
  rw [← hbx] at hu ⊢
  rw [← hby] at hv ⊢
  have T := Lib.hid (own2 w #[.bool bx, .slice oa n c] 54 #[.bool by', .slice ob n2 c2] 54)
  have l1 := dig_add hx hx
  have l2 := dig_add l1 (show (Big.dig y.natAbs).length ≤ 50 + 1 by omega)
  have l3 := dig_add hy hy
  have H1 := Lib.hid (fun W (m : Mod [] w W) => plus_v (hu.mod m) (hu.mod m) (by omega) (by omega))
  have H2 := Lib.hid (fun W k (m : Mod [] w W) (h : NumV (x + x) k W) => plus_v h (hv.mod m) (by omega) (by omega))
  have H3 := Lib.hid (fun W (m : Mod [] w W) => plus_v (hv.mod m) (hv.mod m) (by omega) (by omega))
  have H4 := Lib.hid (fun W j k (h : NumV (x + x + y) j W) (h' : NumV (y + y) k W) => parts_v h h' (by omega) (by omega) (by omega))
  have lq : (Big.dig (Rat.half x y).natAbs).length ≤ 3000 := by
    rw [hh]
    refine Nat.le_trans (Big.dig_length_mono (n := (x + x + y).natAbs) ?_) (by omega)
    exact natAbs_ediv_le _ _ (by omega)
  rw [← hh] at H4
  have HF := Lib.hid (intR_fits (Rat.half x y))
  have HLQ := Lib.hid lq
  generalize Rat.half x y = q at *
  generalize Rat.fits q = f at *
  clear hu hv hx hy hy0 l1 l2 l3 lq hh hs hs2 hbx hby
  go_enter Try.func40, Try.ntmps40
  go_upto_region 1 with fail
  generalize (w.alloc (.cells #[.bool bx, .slice oa n c] 54)).alloc (.cells #[.bool by', .slice ob n2 c2] 54) = W0 at *
  have A0 := (T.out.at 0 rfl).every
  have A1 := (T.out.at 1 rfl).every
  refine Ch.wp_region_chain [(11, 10), (14, 11)] ?l'1 14 [true, true, false, true, false, true, true, false, false, false, false, false, false, false] [(2, NumV (x + x)), (4, NumV (x + x + y)), (7, NumV (y + y)), (8, PairV q ((x + x + y) % (y + y))), (9, PairV q ((x + x + y) % (y + y))), (10, NumV q), (11, NumV ((x + x + y) % (y + y)))] [(12, NewBlk (W0.heap.size) (#[.bool false, .slice none 0 0]) 54), (13, NewBlk (W0.heap.size) (#[.bool false, .slice none 0 0]) 54)] (by kernel_rfl) ?hl1 ?hB1 ?hT1 ?hsl1 ?hAl1 ?hQ1 ?main1
  case hl1 => simp only [Ch.waitsFor, waitFor, List.modify_succ_cons, List.modify_zero_cons]; exact rfl
  case hB1 => kernel_rfl
  case hT1 => simp [NewBlk.stays, NumV.stays, PairV.stays]
  case hsl1 => kernel_rfl
  case hAl1 => (intro i hi; simp only [List.map_cons, List.map_nil, List.mem_cons, List.not_mem_nil, or_false] at hi; rcases hi with rfl | rfl <;> (intro o ho; obtain rfl := Option.some.inj ho; first | exact ⟨#[.bool false, .slice none 0 0], 54, fun ρ w => by go_simp⟩))
  case hQ1 => (intro _ _ d _ _ h; cases d <;> exact h)
  simp only [pickM]
  refine steady_go (a' := ?_) (by kernel_rfl) ?_ (fun w' hw' K Q hK => ?_) ?_
  rotate_left 2
  · go_wp2_with fail; exact hK _ (Mod.refl _ _)
  rotate_left
  · rfl
  refine steady_go (a' := ?_) (by kernel_rfl) ?_ (fun w' hw' K Q hK => ?_) ?_
  rotate_left 2
  · go_wp2_with fail; exact hK _ (Mod.refl _ _)
  rotate_left
  · rfl
  refine steady_go (a' := ?_) (by kernel_rfl) ?_ (fun w' hw' K Q hK => ?_) ?_
  rotate_left 2
  · go_wp2_with fail; exact hK _ (Mod.refl _ _)
  rotate_left
  · rfl
  refine steady_go (a' := ?_) (by kernel_rfl) ?_ (fun w' hw' K Q hK => ?_) ?_
  rotate_left 2
  · go_wp2_with fail; exact hK _ (Mod.refl _ _)
  rotate_left
  · rfl
  refine steady_go (a' := ?_) (by kernel_rfl) ?_ (fun w' hw' K Q hK => ?_) ?_
  rotate_left 2
  · go_wp2_with fail; exact hK _ (Mod.refl _ _)
  rotate_left
  · rfl
  refine steady_done ?_
  refine Ch.chain_go (f := ?_) rfl rfl (fun v => by simp only [Act.put]; (try simp only [List.setIfInBounds_toArray]); (try simp only [List.set_cons_succ, List.set_cons_zero]); exact rfl) (fun w' hw' hF K Q hK => ?_) (fun kv1 => ?_)
  · clear hF
    go_wp2_with fail
    refine (H1.out _ (T.out.mod.then hw')).mono ?_
    rintro e w'' ⟨v, rfl, hv, mm⟩
    go_wp2_with fail
    exact hK _ _ mm hv
  refine Ch.chain_go (f := ?_) rfl rfl (fun v => by simp only [Act.put]; (try simp only [List.setIfInBounds_toArray]); (try simp only [List.set_cons_succ, List.set_cons_zero]); exact rfl) (fun w' hw' hF K Q hK => ?_) (fun kv2 => ?_)
  · have hv0 := hF.2; clear hF
    go_wp2_with fail
    refine (H2.out _ _ (T.out.mod.then hw') hv0).mono ?_
    rintro e w'' ⟨v, rfl, hv, mm⟩
    go_wp2_with fail
    exact hK _ _ mm hv
  refine Ch.chain_go (f := ?_) rfl rfl (fun v => by simp only [Act.put]; (try simp only [List.setIfInBounds_toArray]); (try simp only [List.set_cons_succ, List.set_cons_zero]); exact rfl) (fun w' hw' hF K Q hK => ?_) (fun kv3 => ?_)
  · clear hF
    go_wp2_with fail
    refine (H3.out _ (T.out.mod.then hw')).mono ?_
    rintro e w'' ⟨v, rfl, hv, mm⟩
    go_wp2_with fail
    exact hK _ _ mm hv
  refine Ch.chain_go (f := ?_) rfl rfl (fun v => by simp only [Act.put]; (try simp only [List.setIfInBounds_toArray]); (try simp only [List.set_cons_succ, List.set_cons_zero]); exact rfl) (fun w' hw' hF K Q hK => ?_) (fun kv4 => ?_)
  · have hv0 := And.intro hF.1.2 hF.2; clear hF
    go_wp2_with fail
    refine (H4.out _ _ _ hv0.1 hv0.2).mono ?_
    rintro e w'' ⟨v, rfl, hv, mm⟩
    go_wp2_with fail
    exact hK _ _ mm hv
  refine Ch.chain_go (f := ?_) rfl rfl (fun v => by simp only [Act.put]; (try simp only [List.setIfInBounds_toArray]); (try simp only [List.set_cons_succ, List.set_cons_zero]); exact rfl) (fun w' hw' hF K Q hK => ?_) (fun kv5 => ?_)
  · refine PairV.elim (hF.2) (fun a b he k1 k2 => ?_)
    subst he; clear hF
    go_wp2_with fail
    exact hK _ _ (Mod.refl _ _) ⟨a, b, rfl, k1, k2⟩
  refine Ch.chain_go (f := ?_) rfl rfl (fun v => by simp only [Act.put]; (try simp only [List.setIfInBounds_toArray]); (try simp only [List.set_cons_succ, List.set_cons_zero]); exact rfl) (fun w' hw' hF K Q hK => ?_) (fun kv6 => ?_)
  · refine PairV.elim (hF.2) (fun a b he k1 k2 => ?_)
    subst he; clear hF
    go_wp2_with fail
    exact hK _ _ (Mod.refl _ _) k1
  refine Ch.chain_go (f := ?_) rfl rfl (fun v => by simp only [Act.put]; (try simp only [List.setIfInBounds_toArray]); (try simp only [List.set_cons_succ, List.set_cons_zero]); exact rfl) (fun w' hw' hF K Q hK => ?_) (fun kv7 => ?_)
  · refine PairV.elim (hF.1.2) (fun a b he k1 k2 => ?_)
    subst he; clear hF
    go_wp2_with fail
    exact hK _ _ (Mod.refl _ _) k2
  refine Ch.chain_end ?_
  refine Ch.lates_cons rfl rfl (late_alloc ?_) (fun v6 => ?_)
  · intro w'; go_simp
  refine Ch.lates_cons rfl rfl (late_alloc ?_) (fun v7 => ?_)
  · intro w'; go_simp
  refine lates_end (fun hD w' hw' hF => ?_)
  simp only [List.drop_succ_cons, List.drop_zero]
  refine NewBlk.elim hF.2 (fun b7 he9 hb9 B9 => ?_)
  refine NewBlk.elim hF.1.2 (fun b6 he8 hb8 B8 => ?_)
  refine NumV.elim hF.1.1.2 (fun ra rn rc he7 hr => ?_)
  refine NumV.elim hF.1.1.1.2 (fun pa pn pc he6 hp => ?_)
  clear hF
  subst he9 he8 he7 he6
  have hne : b6 ≠ b7 := fun he => hD.1 13 (by simp) (by subst he; kernel_rfl)
  clear hD
  obtain ⟨c0, c1, z0, z1⟩ := B8.two
  obtain ⟨d0, d1, y0, y1⟩ := B9.two
  obtain ⟨bq, hbq⟩ : ∃ b, b = decide (q < 0) := ⟨_, rfl⟩
  obtain ⟨br, hbr⟩ : ∃ b, b = decide ((x + x + y) % (y + y) < 0) := ⟨_, rfl⟩
  rw [← hbq, ← hbr]
  have HT := Lib.hid (two_boxes hw' hb8 hb9 hne B8 B9 hp (ra := ra) (rn := rn) (rc := rc) (x := bq) (y := br))
  have HBQ := Lib.hid hbq
  have hne' := hne.symm
  clear A0 A1 B8 B9 hp hr hw' hb8 hb9 hbq hbr H1 H2 H3 H4
  go_upto_region 2 with fail
  clear c0 c1 z0 z1 d0 d1 y0 y1 hne hne'
  obtain ⟨M8, B8, hp⟩ := HT.out
  have M9 := Lib.hid (T.out.mod.then M8)
  have HP8 : Hid (NumV q (.agg #[.bool bq, .slice pa pn pc]) _) := Lib.hid (show NumZ _ _ q from ⟨_, by rw [HBQ.out], hp⟩)
  obtain ⟨p0, p1, -, -⟩ := B8.two
  clear HT M8 B8 hp T HBQ
  generalize (((w'.setCell ⟨b6, 0, none⟩ (.bool bq)).setCell ⟨b6, 1, none⟩ (.slice pa pn pc)).setCell ⟨b7, 0, none⟩ (.bool br)).setCell ⟨b7, 1, none⟩ (.slice ra rn rc) = W8 at *
  go_wp2_with fail
  refine (int_num _ q _ HP8.out HLQ.out).mono ?_
  rintro e w9 ⟨rfl, m9⟩
  have M10 := Lib.hid (M9.out.then m9)
  clear m9 M9 HP8 p0 p1
  generalize Big.intR q = i at *
  obtain ⟨ia, ib⟩ := i
  cases ib
  · go_wp2_with fail
    exact bodyPost_ret (v := .tuple #[.int .i64 0, .bool false]) (by simp [results, Try.results40, go_sem]) rfl ⟨(by rw [← HF.out]; rfl), M10.out⟩
  · go_wp2_with fail
    exact bodyPost_ret (v := .tuple #[.int .i64 ia, .bool true]) (by simp [results, Try.results40, go_sem]) rfl ⟨(by rw [← HF.out]; rfl), M10.out⟩
end Go.Proofs.Ytiigcilmpclclaa

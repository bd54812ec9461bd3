/- The reference's whole, Of, Neg: numbers. -/
import Derived.Test.YtngeijdfpgmcfaaBigAdd
namespace Go.Proofs.Ytngeijdfpgmcfaa
open Go.RowKit
set_option maxRecDepth 100000
set_option linter.unusedVariables false

/-- A number of the reference. -/
def NumZ (w : World) (v : Value) (z : Int) : Prop := ∃ s, v = .agg #[.bool (decide (z < 0)), s] ∧ Sl w s ((Big.dig z.natAbs).map dcell)
theorem NumZ.mod {w w' : World} {v : Value} {z : Int} (h : NumZ w v z) (m : Mod [] w w') : NumZ w' v z := by
  obtain ⟨s, h1, h2⟩ := h
  exact ⟨s, h1, h2.mod m⟩
/-- What tells a number: a new one. -/
def NumPost (z : Int) (w : World) (e : Ending) (w' : World) : Prop := ∃ oa n c, e = .returned (.agg #[.bool (decide (z < 0)), .slice oa n c]) ∧ Sl w' (.slice oa n c) ((Big.dig z.natAbs).map dcell) ∧ Fresh w.heap.size (.slice oa n c) ∧ Mod [] w w'
theorem NumPost.numz {z : Int} {w w' : World} {e : Ending} (h : NumPost z w e w') : ∃ v, e = .returned v ∧ NumZ w' v z ∧ Mod [] w w' := by
  obtain ⟨oa, n, c, h1, h2, _, h4⟩ := h
  exact ⟨_, h1, ⟨_, rfl, h2⟩, h4⟩

theorem Sl.empty (w : World) (b cap : Nat) (hb : b < w.heap.size) : Sl w (.slice (some ⟨b, 0, none⟩) 0 cap) [] := .inr ⟨b, 0, cap, rfl, hb, Nat.zero_le _, fun i hi => by simp at hi⟩
theorem dig_abs0 : (Big.dig (0 : Int).natAbs).map dcell = [] := by rw [show (0 : Int).natAbs = 0 from rfl, Big.dig_zero]; rfl
theorem row_new (w : World) (o : Obj) (e : TypeId) : ((w.alloc o).alloc (.cells #[] e)).ownsRow (w.heap.size + 1) e 1 (.slice (some ⟨w.heap.size + 1, 0, none⟩) 0 0) 0 [] := by
  have := World.ownsRow_made (base := w.heap.size + 1) (size := 1) (e := e) (w.alloc o) #[] 0 (by simp) (by decide) rfl
  simpa using this
theorem row_form {w : World} {base e size n : Nat} {v : Value} {xs : List Value} (h : w.ownsRow base e size v n xs) : ∃ oa cap, v = .slice oa n cap := by
  obtain ⟨_, ⟨h1, h2⟩ | ⟨g, cap, cur, h1, _⟩⟩ := h
  · subst h2; exact ⟨none, 0, h1⟩
  · exact ⟨_, cap, h1⟩
theorem row_set {w : World} {base e size n : Nat} {v : Value} {xs : List Value} (h : w.ownsRow base e size v n xs) {p : Addr} (hp : p.block < base) (x : Value) : (w.setCell p x).ownsRow base e size v n xs := by
  refine h.kept (row := some p.block) ⟨rfl, rfl, rfl, by simp, fun k hk hne => ?_⟩ ?_
  · exact Below.heap_setCell w p x k (fun e => hne (by rw [e]))
  · right
    intro e
    have := (h.lt _ e).1
    omega
theorem row_drewN {w : World} {base e size k : Nat} {v : Value} {xs : List Value} (h : w.ownsRow base e size v k xs) (n : Nat) : (w.drewN n).ownsRow base e size v k xs := h

namespace Big
theorem strip_step {ds : List Nat} {k : Nat} (hz : ∀ i, k ≤ i → ds.getD i 0 = 0) (h : ds.getD (k - 1) 0 = 0) : ∀ i, k - 1 ≤ i → ds.getD i 0 = 0 := fun i hi => by
  by_cases e : i = k - 1
  · rw [e]; exact h
  · exact hz i (by omega)
theorem strip_start (ds : List Nat) : ∀ i, ds.length ≤ i → ds.getD i 0 = 0 := fun i hi => by simp [List.getElem?_eq_none hi]
theorem val_pos_iff {ds : List Nat} {k : Nat} (h : ds.take k = dig (val ds)) (hk : k ≤ ds.length) : 0 < val ds ↔ 0 < k := by
  have h1 : (ds.take k).length = k := by rw [List.length_take]; omega
  rw [h] at h1
  constructor
  · intro hv
    rcases Nat.eq_zero_or_pos k with h0 | h0
    · rw [h0] at h1
      have := dig_nil.1 (List.length_eq_zero_iff.1 h1)
      omega
    · exact h0
  · intro hk0
    rcases Nat.eq_zero_or_pos (val ds) with h0 | h0
    · rw [h0, dig_zero] at h1; simp at h1; omega
    · exact h0
/-- below, if so and not 0. -/
def sgn (b : Bool) (m : Nat) : Int := if b then -(m : Int) else m
theorem sgn_abs (b : Bool) (m : Nat) : (sgn b m).natAbs = m := by cases b <;> simp [sgn]
theorem sgn_neg (b : Bool) (m : Nat) : decide (sgn b m < 0) = (b && decide (0 < m)) := by
  cases b
  · simp [sgn]
  · simp [sgn]
end Big

set_option maxHeartbeats 1000000 in
theorem whole_any (b : Bool) (u : Value) (ds : List Nat) (w : World) (hu : Sl w u (ds.map dcell)) (h1 : ds.length ≤ 3000) (hd : Big.Digits ds) :
    Calls Try.prog 54 #[.bool b, u] w (NumPost (Big.sgn b (Big.val ds)) w) := by
  obtain ⟨i0, hi, hz0, hz1, hz2⟩ := info_parts Try.info_int
  have S0 := Lib.hid (own1 w #[.bool false, .slice none 0 0] 99)
  rcases hu with ⟨rfl, hn⟩ | ⟨bb, o, cap, rfl, hb, hc, hcell⟩
  · have : ds = [] := by simpa using hn
    subst this
    rw [show Big.sgn b (Big.val []) = 0 by cases b <;> rfl]
    go_enter Try.func54, Try.ntmps54
    go_wp2_with fail
    go_loop [5] (fun n => n = .int .i64 0) (fun _ => 0)
    case atStart => exact rfl
    case round =>
      obtain rfl := hrel
      cases b
      all_goals
        go_wp2_with fail
        refine bodyPost_ret (v := .agg #[.bool false, .slice (some ⟨w.heap.size + 1, 0, none⟩) 0 0]) (by simp [results, Try.results54, go_sem]) rfl ⟨_, _, _, rfl, by rw [dig_abs0]; exact Sl.empty _ _ _ (by simp), fun k hk => by simp [Value.ownBlock] at hk; omega, ((Mod.refl [] w).alloc _).alloc _⟩
  · rw [List.length_map] at *
    go_enter Try.func54, Try.ntmps54
    go_wp2_with fail
    go_loop [5] (fun n => ∃ k : Nat, n = .int .i64 (k : Int) ∧ k ≤ ds.length ∧ Hid (∀ i, k ≤ i → ds.getD i 0 = 0)) (fun n => (intOf n).toNat)
    case atStart => exact ⟨ds.length, rfl, Nat.le_refl _, Big.strip_start ds⟩
    case round =>
      obtain ⟨k, rfl, hk, HZ⟩ := hrel
      have hcl : ∀ i, i < ds.length → w.cell? ⟨bb, o + i, none⟩ = some (.int .i64 ((ds.getD i 0 : Nat) : Int)) := fun i hi => by
        rw [hcell i (by simpa using hi)]; simp [dcell, hi]
      have HC := Lib.hid hcl
      have HCE := Lib.hid hcell
      have HB := Lib.hid hb
      clear hcell hcl
      by_cases hgo : 0 < k ∧ ds.getD (k - 1) 0 = 0
      · obtain ⟨hk0, hzz⟩ := hgo
        have hv : w.cell? ⟨bb, o + (k - 1), none⟩ = some (.int .i64 0) := by rw [HC.out (k - 1) (by omega), hzz]; rfl
        have HZ2 := Lib.hid (Big.strip_step HZ.out hzz)
        have hva : (w.alloc (.cells #[.bool false, .slice none 0 0] 99)).cell? ⟨bb, o + (k - 1), none⟩ = some (.int .i64 0) := by
          rw [((Mod.refl [] w).alloc _).cell (p := ⟨bb, o + (k - 1), none⟩) hb (by simp)]; exact hv
        have d1 : decide ((0 : Int) < (k : Int)) = true := by simp; omega
        have d2 : decide (0 < k) = true := by simpa using hk0
        have e1 : ((k : Int) - 1).toNat = k - 1 := by omega
        clear hzz HC HCE
        go_wp2_with fail
        go_round
        case rel => exact ⟨k - 1, by congr 1; omega, by omega, HZ2.out⟩
        case measure => simp [intOf]; omega
      · have HT := Lib.hid (Big.dig_strip ds hd k hk HZ.out (by omega))
        have hvp := Big.val_pos_iff HT.out hk
        have hnews : ∀ (W : World), Mod [] w W → ∀ j u, ((ds.take k).map dcell)[j]? = some u → W.cell? ((⟨bb, o, none⟩ : Addr).add j) = some u := fun W m j u hj => by
          have hjl : j < (ds.take k).length := by
            rcases Nat.lt_or_ge j (ds.take k).length with h | h
            · exact h
            · rw [List.getElem?_eq_none (by simpa using h)] at hj; cases hj
          have hjd : j < ds.length := by rw [List.length_take] at hjl; omega
          have hjk : j < k := by rw [List.length_take] at hjl; omega
          have h2 : W.cell? ⟨bb, o + j, none⟩ = w.cell? ⟨bb, o + j, none⟩ := m.cell (p := ⟨bb, o + j, none⟩) hb (by simp)
          rw [show (⟨bb, o, none⟩ : Addr).add j = ⟨bb, o + j, none⟩ by simp [Addr.add]]
          rw [h2, HC.out j hjd]
          rw [List.getElem?_map, List.getElem?_take, if_pos hjk] at hj
          simp [hjd] at hj
          rw [← hj]; simp [dcell, hjd]
        have HN := Lib.hid hnews
        have hbn : (Big.sgn b (Big.val ds) : Int) = Big.sgn b (Big.val ds) := rfl
        have HNum := Lib.hid (fun (W : World) (s : Value) (h : Sl W s ((ds.take k).map dcell)) (bv : Bool) (hbv : bv = (b && decide (0 < k))) => (show bv = decide (Big.sgn b (Big.val ds) < 0) ∧ Sl W s ((Big.dig (Big.sgn b (Big.val ds)).natAbs).map dcell) from
          ⟨by rw [hbv, Big.sgn_neg]; rw [show decide (0 < k) = decide (0 < Big.val ds) by rw [decide_eq_decide]; exact hvp.symm], by rw [Big.sgn_abs, ← HT.out]; exact h⟩))
        have hkc : k ≤ cap := by omega
        have hlk : (ds.take k).length = k := by rw [List.length_take]; omega
        have HLK := Lib.hid hlk
        have hck : w.cell? ⟨bb, o + (k - 1), none⟩ = some (.int .i64 ((ds.getD (k - 1) 0 : Nat) : Int)) ∨ k = 0 := by
          by_cases h0 : k = 0
          · exact .inr h0
          · exact .inl (HC.out (k - 1) (by omega))
        have HGO := Lib.hid hgo
        clear hnews hvp hbn hlk HZ HC HCE hgo
        have HNone := Lib.hid (show ∀ u ∈ (ds.take k).map dcell, u.oneCell' = true from fun u hu => by
          obtain ⟨x, _, rfl⟩ := List.mem_map.1 hu; rfl)
        have fin : Hid (∀ (W1 : World) (v' : Value) (bv : Bool) (x : Value), bv = (b && decide (0 < k)) → W1.ownsRow (w.heap.size + 1) 3 1 v' (0 + k) ([] ++ (ds.take k).map dcell) → Mod [] w W1 →
          bv = decide (Big.sgn b (Big.val ds) < 0) ∧ Sl ((W1.setCell ⟨w.heap.size, 0, none⟩ (.bool bv)).setCell ⟨w.heap.size, 1, none⟩ v') v' ((Big.dig (Big.sgn b (Big.val ds)).natAbs).map dcell) ∧ Fresh w.heap.size v' ∧ Mod [] w ((W1.setCell ⟨w.heap.size, 0, none⟩ (.bool bv)).setCell ⟨w.heap.size, 1, none⟩ v')) := by
          intro W1 v' bv x hbv hown hmo
          have h3 := row_set (row_set hown (p := ⟨w.heap.size, 0, none⟩) (by simp) (.bool bv)) (p := ⟨w.heap.size, 1, none⟩) (by simp) v'
          have h4 := HNum.out _ _ (by have := Sl.of_row h3; simpa using this) bv hbv
          exact ⟨h4.1, h4.2, fun k hk => by have := (hown.lt k hk).1; omega, (hmo.setNew (by simp) _).setNew (by simp) _⟩
        have HMA := Lib.hid (((Mod.refl [] w).alloc (.cells #[.bool false, .slice none 0 0] 99)).alloc (.cells #[] 3))
        have A1 := Lib.hid (show ((ds.take k).map dcell).length = k * 1 by rw [List.length_map, HLK.out, Nat.mul_one])
        have A2 := Lib.hid (show 0 + k ≤ maxLen by unfold maxLen; omega)
        have A3 := Lib.hid (show (0 + k) * 8 ≤ 140737488355328 by omega)
        have A4 := Lib.hid (show w.heap.size + 1 ≤ ((w.alloc (.cells #[.bool false, .slice none 0 0] 99)).alloc (.cells #[] 3)).heap.size by simp)
        have hkz : k = 0 ∨ 0 < k ∧ ds.getD (k - 1) 0 ≠ 0 := by
          rcases Nat.eq_zero_or_pos k with h | h
          · exact .inl h
          · exact .inr ⟨h, fun h2 => HGO.out ⟨h, h2⟩⟩
        rcases hkz with rfl | ⟨hk0, hne⟩
        · clear hck
          cases b
          all_goals
            go_wp2_with (at_builtin; refine wpList_append_own _ rfl _ _ 29 rfl (w.heap.size + 1) 3 i0 (.int .i64 0) 1 8 Try.underlying29 hi hz0 hz1 hz2 rfl (by decide) _ _ _ rfl (row_new w _ _) ⟨bb, o, none⟩ 0 cap ((ds.take 0).map dcell) rfl A1.out (HN.out _ HMA.out) HNone.out A2.out A3.out A4.out ?_)
            intro v' w1 hown' hgrow _
            obtain ⟨oa, c', rfl⟩ := row_form hown'
            have HMO := Lib.hid (HMA.out.grown hgrow (fun b hb => by simp [Value.ownBlock] at hb; omega))
            have HOW := Lib.hid hown'
            obtain ⟨r0, r1, z0, z1⟩ : w1.cell? ⟨w.heap.size, 0, none⟩ = some (.bool false) ∧ w1.cell? ⟨w.heap.size, 1, none⟩ = some (.slice none 0 0) ∧ w1.frozen? ⟨w.heap.size, 0, none⟩ = false ∧ w1.frozen? ⟨w.heap.size, 1, none⟩ = false :=
              Blk.two (t := 99) (by
                unfold Blk
                rw [hgrow.block w.heap.size (by simp; omega) (by simp [Value.ownBlock])]
                exact (Blk.new w _ _).alloc _)
            clear hown' hgrow
            go_wp2_with fail
            obtain ⟨f0, f1, f2, f3⟩ := fin.out w1 _ false .nilFunc (by simp) HOW.out HMO.out
            refine bodyPost_ret (v := .agg #[.bool false, .slice oa 0 c']) (by simp [results, Try.results54, go_sem, r0, r1]) rfl ⟨_, _, _, by rw [← f0], f1, f2, f3⟩
        · rcases hck with hck | hck
          case inr => omega
          have hva : (w.alloc (.cells #[.bool false, .slice none 0 0] 99)).cell? ⟨bb, o + (k - 1), none⟩ = some (.int .i64 ((ds.getD (k - 1) 0 : Nat) : Int)) := by
            rw [((Mod.refl [] w).alloc _).cell (p := ⟨bb, o + (k - 1), none⟩) hb (by simp)]; exact hck
          generalize ds.getD (k - 1) 0 = x at *
          have d1 : decide ((0 : Int) < (k : Int)) = true := by simp; omega
          have d2 : decide (0 < k) = true := by simp; omega
          have d3 : ((x : Int) == 0) = false := by simp; omega
          have e1 : ((k : Int) - 1).toNat = k - 1 := by omega
          clear hck hne
          cases b
          case' false => have fin2 := Lib.hid (fun W1 v' h1 h2 => fin.out W1 v' false v' (by simp) h1 h2)
          case' true => have fin2 := Lib.hid (fun W1 v' h1 h2 => fin.out W1 v' true v' (by simp [d2]) h1 h2)
          all_goals
            go_wp2_with (at_builtin; refine wpList_append_own _ rfl _ _ 29 rfl (w.heap.size + 1) 3 i0 (.int .i64 0) 1 8 Try.underlying29 hi hz0 hz1 hz2 rfl (by decide) _ _ _ rfl (row_new w _ _) ⟨bb, o, none⟩ k cap ((ds.take k).map dcell) rfl A1.out (HN.out _ HMA.out) HNone.out A2.out A3.out A4.out ?_)
            intro v' w1 hown' hgrow _
            obtain ⟨oa, c', rfl⟩ := row_form hown'
            have HMO := Lib.hid (HMA.out.grown hgrow (fun b hb => by simp [Value.ownBlock] at hb; omega))
            have HOW := Lib.hid hown'
            obtain ⟨r0, r1, z0, z1⟩ : w1.cell? ⟨w.heap.size, 0, none⟩ = some (.bool false) ∧ w1.cell? ⟨w.heap.size, 1, none⟩ = some (.slice none 0 0) ∧ w1.frozen? ⟨w.heap.size, 0, none⟩ = false ∧ w1.frozen? ⟨w.heap.size, 1, none⟩ = false :=
              Blk.two (t := 99) (by
                unfold Blk
                rw [hgrow.block w.heap.size (by simp; omega) (by simp [Value.ownBlock])]
                exact (Blk.new w _ _).alloc _)
            clear hown' hgrow
            go_wp2_with fail
            obtain ⟨f0, f1, f2, f3⟩ := fin2.out w1 (.slice oa k c') (by have := HOW.out; simpa using this) HMO.out
            first
              | (refine bodyPost_ret (v := .agg #[.bool false, .slice oa k c']) ?_ rfl ⟨_, _, _, ?_, f1, f2, f3⟩ <;> first | (simp [results, Try.results54, go_sem, r0, r1]; done) | (rw [← f0]; done))
              | (refine bodyPost_ret (v := .agg #[.bool true, .slice oa k c']) ?_ rfl ⟨_, _, _, ?_, f1, f2, f3⟩ <;> first | (simp [results, Try.results54, go_sem, r0, r1]; done) | (rw [← f0]; done))
end Go.Proofs.Ytngeijdfpgmcfaa

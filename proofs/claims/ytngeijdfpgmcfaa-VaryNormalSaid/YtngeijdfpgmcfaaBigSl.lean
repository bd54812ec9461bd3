/- Slices of numbers that are read; the reference's digit and compare. -/
import Derived.Test.YtngeijdfpgmcfaaBigPlain
import Derived.Test.YtngeijdfpgmcfaaMono
namespace Go.Proofs.Ytngeijdfpgmcfaa
open Go.RowKit
set_option linter.unusedVariables false

/-- A digit as a cell. -/
def dcell (d : Nat) : Value := .int .i64 (d : Int)
/-- A slice of cells, as it is read: nil, or somewhere in a block. -/
def Sl (w : World) (v : Value) (cs : List Value) : Prop :=
  (v = .slice none 0 0 ∧ cs = []) ∨ ∃ b o cap, v = .slice (some ⟨b, o, none⟩) cs.length cap ∧ b < w.heap.size ∧ cs.length ≤ cap ∧ ∀ i (h : i < cs.length), w.cell? ⟨b, o + i, none⟩ = some cs[i]
theorem Sl.mod {w w' : World} {v : Value} {cs : List Value} (h : Sl w v cs) (m : Mod [] w w') : Sl w' v cs := by
  rcases h with h | ⟨b, o, cap, h1, h2, h3, h4⟩
  · exact .inl h
  · exact .inr ⟨b, o, cap, h1, Nat.lt_of_lt_of_le h2 m.size, h3, fun i hi => by rw [m.cell (p := ⟨b, o + i, none⟩) h2 (by simp)]; exact h4 i hi⟩
theorem Sl.of_row {w : World} {base e n : Nat} {v : Value} {xs : List Value} (h : w.ownsRow base e 1 v n xs) : Sl w v xs := by
  obtain ⟨hl, h | ⟨g, cap, cur, h1, h2, h3, h4, h5, h6, h7⟩⟩ := h
  · left
    refine ⟨h.1, ?_⟩
    have : xs.length = 0 := by rw [hl, h.2]
    exact List.length_eq_zero_iff.1 this
  · right
    have hn : xs.length = n := by omega
    refine ⟨g, 0, cap, by rw [h1, hn], ?_, by omega, fun i hi => ?_⟩
    · rcases Nat.lt_or_ge g w.heap.size with h' | h'
      · exact h'
      · rw [Array.getElem?_eq_none h'] at h3; cases h3
    · simp only [World.cell?, h3, Nat.zero_add]
      rw [← Array.getElem?_toList]
      have : (cur.toList.take (n * 1))[i]? = some xs[i] := by rw [h7]; simp
      rw [List.getElem?_take, if_pos (by omega)] at this
      simpa using this
theorem Sl.form {w : World} {v : Value} {cs : List Value} (h : Sl w v cs) : ∃ oa cap, v = .slice oa cs.length cap := by
  rcases h with ⟨h, rfl⟩ | ⟨b, o, cap, h1, _⟩
  · exact ⟨none, 0, h⟩
  · exact ⟨_, cap, h1⟩

/-- The slice lies, if anywhere, from block base on. -/
def Fresh (base : Nat) (v : Value) : Prop := ∀ k, v.ownBlock = some k → base ≤ k
theorem Fresh.le {a b : Nat} {v : Value} (h : Fresh a v) (hb : b ≤ a) : Fresh b v := fun k hk => Nat.le_trans hb (h k hk)
theorem Sl.set {w : World} {v : Value} {cs : List Value} (h : Sl w v cs) {base : Nat} (hf : Fresh base v) {p : Addr} (hp : p.block < base) (x : Value) : Sl (w.setCell p x) v cs := by
  rcases h with h | ⟨b, o, cap, rfl, h2, h3, h4⟩
  · exact .inl h
  · have hb : base ≤ b := hf b rfl
    refine .inr ⟨b, o, cap, rfl, by simpa using h2, h3, fun i hi => ?_⟩
    rw [World.cell?_of_block (w := w) (a := ⟨b, o + i, none⟩) (Below.heap_setCell w p x b (by omega))]
    exact h4 i hi

set_option maxHeartbeats 400000 in
theorem digit_any (v : Value) (ds : List Nat) (i : Nat) (w : World) (h : Sl w v (ds.map dcell)) (hi : i ≤ 9223372036854775807) :
    Calls Try.prog 70 #[v, .int .i64 i] w fun e w' => e = .returned (.int .i64 ((ds.getD i 0 : Nat) : Int)) ∧ w = w' := by
  rcases h with ⟨rfl, hn⟩ | ⟨b, o, cap, rfl, hb, hc, hcell⟩
  · have : ds = [] := by simpa using hn
    subst this
    have d1 : decide ((i : Int) < 0) = false := by simp
    go_enter Try.func70, Try.ntmps70
    go_wp2_with fail
    go_ret
    exact ⟨ret_int (by simp), rfl⟩
  · rw [List.length_map]
    by_cases hlt : i < ds.length
    · have hv : w.cell? ⟨b, o + i, none⟩ = some (.int .i64 ((ds.getD i 0 : Nat) : Int)) := by
        rw [hcell i (by simpa using hlt)]; simp [dcell, hlt]
      clear hcell
      generalize ds.getD i 0 = x at *
      have k1 : decide ((i : Int) < (ds.length : Int)) = true := by simp; omega
      have k2 : decide (i < ds.length) = true := by simpa using hlt
      have k3 : (0 : Int) ≤ i := by omega
      go_enter Try.func70, Try.ntmps70
      go_wp2_with fail
      go_ret
      exact ⟨rfl, rfl⟩
    · have hz : ds.getD i 0 = 0 := by simp [List.getElem?_eq_none (Nat.le_of_not_lt hlt)]
      have HZ := Lib.hid hz
      clear hz
      have k2 : decide (i < ds.length) = false := by simpa using hlt
      go_enter Try.func70, Try.ntmps70
      go_wp2_with fail
      go_ret
      exact ⟨by rw [HZ.out]; rfl, rfl⟩

namespace Big
theorem cmp_step {ds es : List Nat} {i : Nat} (h : val (ds.drop (i + 1)) = val (es.drop (i + 1))) (he : ds.getD i 0 = es.getD i 0) : val (ds.drop i) = val (es.drop i) := by
  rw [val_drop ds, val_drop es, h, he]
theorem cmp_diff {ds es : List Nat} {i : Nat} (hd : Digits ds) (hes : Digits es) (h : val (ds.drop (i + 1)) = val (es.drop (i + 1))) (hne : ds.getD i 0 ≠ es.getD i 0) : (es.getD i 0 ≤ ds.getD i 0 ↔ val es ≤ val ds) := by
  have h1 := val_split ds i
  have h2 := val_split es i
  have h3 := val_take_lt hd i
  have h4 := val_take_lt hes i
  rw [val_drop ds, h] at h1
  rw [val_drop es] at h2
  generalize val (es.drop (i + 1)) = t at *
  generalize ds.getD i 0 = x at *
  generalize es.getD i 0 = y at *
  rw [Nat.mul_add] at h1 h2
  constructor
  · intro hxy
    have : 65536 ^ i * (y + 1) ≤ 65536 ^ i * x := Nat.mul_le_mul_left _ (by omega)
    rw [Nat.mul_add] at this
    omega
  · intro hv
    rcases Nat.lt_or_ge x y with hxy | hxy
    · have : 65536 ^ i * (x + 1) ≤ 65536 ^ i * y := Nat.mul_le_mul_left _ hxy
      rw [Nat.mul_add] at this
      omega
    · exact hxy
end Big

def CmpPost (ds es : List Nat) (w : World) (e : Ending) (w' : World) : Prop := ∃ r : Int, e = .returned (.int .i64 r) ∧ (0 ≤ r ↔ Big.val es ≤ Big.val ds) ∧ -65536 ≤ r ∧ r ≤ 65536 ∧ w = w'

set_option maxHeartbeats 800000 in
theorem compare_any (u v : Value) (ds es : List Nat) (w : World) (hu : Sl w u (ds.map dcell)) (hv : Sl w v (es.map dcell)) (h1 : ds.length ≤ 1000) (h2 : es.length ≤ 1000) (hd : Big.Digits ds) (he : Big.Digits es) :
    Calls Try.prog 71 #[u, v] w (CmpPost ds es w) := by
  obtain ⟨oa, ca, rfl⟩ := hu.form
  obtain ⟨ob, cb, rfl⟩ := hv.form
  simp only [List.length_map] at *
  have HU := Lib.hid (fun i hi => digit_any _ ds i w hu hi)
  have HV := Lib.hid (fun i hi => digit_any _ es i w hv hi)
  clear hu hv
  have hint : ∀ {a b : Int}, a = b → Value.int .i64 a = .int .i64 b := fun h => by rw [h]
  by_cases hm : ds.length < es.length
  all_goals
    go_enter Try.func71, Try.ntmps71
    go_wp2_with fail
    go_loop [5] (fun i => (i = .int .i64 (-1) ∧ Hid (Big.val ds = Big.val es)) ∨ ∃ j : Nat, j < 1000 ∧ i = .int .i64 (j : Int) ∧ Hid (Big.val (ds.drop (j + 1)) = Big.val (es.drop (j + 1)))) (fun i => (intOf i + 1).toNat)
    case atStart =>
      obtain ⟨M, hM⟩ : ∃ M, M = max ds.length es.length := ⟨_, rfl⟩
      rcases Nat.eq_zero_or_pos M with h0 | h0
      · left
        refine ⟨hint (by omega), ?_⟩
        have e1 : ds = [] := List.length_eq_zero_iff.1 (by omega)
        have e2 : es = [] := List.length_eq_zero_iff.1 (by omega)
        rw [e1, e2]; exact rfl
      · right
        refine ⟨M - 1, by omega, hint (by omega), ?_⟩
        rw [List.drop_of_length_le (by omega), List.drop_of_length_le (by omega)]; exact rfl
    case round =>
      rcases hrel with ⟨rfl, HE⟩ | ⟨j, hj, rfl, HE⟩
      · go_wp2_with fail
        go_ret
        exact ⟨0, rfl, by rw [HE.out]; omega, by omega, by omega, rfl⟩
      · have hx := Big.digits_getD hd j
        have hy := Big.digits_getD he j
        have HX := Lib.hid (HU.out j (by omega))
        have HY := Lib.hid (HV.out j (by omega))
        have k0 : decide ((0 : Int) ≤ j) = true := by simp
        by_cases hne : ds.getD j 0 = es.getD j 0
        · have HS := Lib.hid (Big.cmp_step HE.out hne)
          rw [← hne] at HY
          clear HE hne hy
          generalize ds.getD j 0 = x at *
          have kk : ((x : Int) != (x : Int)) = false := by simp
          go_wp2_with fail
          refine HX.out.mono ?_
          rintro e w1 ⟨rfl, rfl⟩
          go_wp2_with fail
          refine HY.out.mono ?_
          rintro e w1 ⟨rfl, rfl⟩
          go_wp2_with fail
          go_round
          case rel =>
            rcases Nat.eq_zero_or_pos j with h0 | h0
            · subst h0
              exact .inl ⟨hint (by omega), HS.out⟩
            · refine .inr ⟨j - 1, by omega, hint (by omega), ?_⟩
              rw [show j - 1 + 1 = j by omega]; exact HS.out
          case measure => simp [intOf]
        · have HS := Lib.hid (Big.cmp_diff hd he HE.out hne)
          clear HE
          generalize ds.getD j 0 = x at *
          generalize es.getD j 0 = y at *
          have kk : ((x : Int) != (y : Int)) = true := by simp; omega
          clear hne
          go_wp2_with fail
          refine HX.out.mono ?_
          rintro e w1 ⟨rfl, rfl⟩
          go_wp2_with fail
          refine HY.out.mono ?_
          rintro e w1 ⟨rfl, rfl⟩
          go_wp2_with fail
          refine HX.out.mono ?_
          rintro e w1 ⟨rfl, rfl⟩
          go_wp2_with fail
          refine HY.out.mono ?_
          rintro e w1 ⟨rfl, rfl⟩
          go_wp2_with fail
          go_ret
          exact ⟨(x : Int) - y, rfl, by rw [← HS.out]; omega, by omega, by omega, rfl⟩
end Go.Proofs.Ytngeijdfpgmcfaa

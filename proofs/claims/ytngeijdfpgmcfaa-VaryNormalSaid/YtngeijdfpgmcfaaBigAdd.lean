/- The reference's plus and less: digits alone. -/
import Derived.Test.YtngeijdfpgmcfaaBigSl
namespace Go.Proofs.Ytngeijdfpgmcfaa
open Go.RowKit
set_option maxRecDepth 100000
set_option linter.unusedVariables false

theorem Try.info_int : (Try.prog.info? 3).map (fun i => (i.zero, i.size, i.bytes)) = some (some (.int .i64 0), 1, 8) := by kernel_rfl
theorem Mod.grown {w a b : World} {row : Option Nat} (h : Mod [] w a) (g : a.grownBy b row) (hr : ∀ k, row = some k → w.heap.size ≤ k) : Mod [] w b :=
  ⟨g.os.trans h.os, g.tape.trans h.tape, g.output.trans h.output, Nat.le_trans h.size g.size, fun k hk hn => by
    rw [g.block k (Nat.lt_of_lt_of_le hk h.size) (fun e => absurd (hr k e.symm) (Nat.not_le.2 hk)), h.block k hk hn]⟩

namespace Big
theorem plus_step {ds es out : List Nat} {k c : Nat} (hd : Digits ds) (he : Digits es) (ho : Digits out) (hl : out.length = k) (hc : c ≤ 1)
    (h : val out + c * 65536 ^ k = val (ds.take k) + val (es.take k)) :
    Digits (out ++ [(ds.getD k 0 + es.getD k 0 + c) % 65536]) ∧ (out ++ [(ds.getD k 0 + es.getD k 0 + c) % 65536]).length = k + 1 ∧ (ds.getD k 0 + es.getD k 0 + c) / 65536 ≤ 1 ∧
      val (out ++ [(ds.getD k 0 + es.getD k 0 + c) % 65536]) + (ds.getD k 0 + es.getD k 0 + c) / 65536 * 65536 ^ (k + 1) = val (ds.take (k + 1)) + val (es.take (k + 1)) := by
  have h1 := digits_getD hd k
  have h2 := digits_getD he k
  refine ⟨fun x hx => ?_, by simp [hl], by omega, ?_⟩
  · rcases List.mem_append.1 hx with hx | hx
    · exact ho x hx
    · simp at hx; omega
  · rw [val_snoc, val_take_succ, val_take_succ, hl, Nat.pow_succ]
    generalize ds.getD k 0 = x at *
    generalize es.getD k 0 = y at *
    generalize 65536 ^ k = p at *
    have e1 : (x + y + c) / 65536 * (p * 65536) + p * ((x + y + c) % 65536) = p * (x + y + c) := by
      have := Nat.div_add_mod (x + y + c) 65536
      calc (x + y + c) / 65536 * (p * 65536) + p * ((x + y + c) % 65536) = p * (65536 * ((x + y + c) / 65536) + (x + y + c) % 65536) := by
            rw [Nat.mul_add]; congr 1; rw [Nat.mul_comm, Nat.mul_assoc]
        _ = p * (x + y + c) := by rw [this]
    rw [Nat.mul_add, Nat.mul_add] at e1
    rw [Nat.mul_comm c p] at h
    omega
theorem plus_end {ds es out : List Nat} {k c : Nat} (hd : Digits ds) (he : Digits es) (hk : k = max ds.length es.length + 1) (h : val out + c * 65536 ^ k = val (ds.take k) + val (es.take k)) : val out = val ds + val es := by
  rw [List.take_of_length_le (by omega), List.take_of_length_le (by omega)] at h
  have h1 := val_lt hd
  have h2 := val_lt he
  have h3 : 65536 ^ ds.length ≤ 65536 ^ max ds.length es.length := Nat.pow_le_pow_right (by omega) (Nat.le_max_left _ _)
  have h4 : 65536 ^ es.length ≤ 65536 ^ max ds.length es.length := Nat.pow_le_pow_right (by omega) (Nat.le_max_right _ _)
  rw [hk, Nat.pow_succ] at h
  rcases Nat.eq_zero_or_pos c with h0 | h0
  · subst h0; omega
  · have : 1 * (65536 ^ max ds.length es.length * 65536) ≤ c * (65536 ^ max ds.length es.length * 65536) := Nat.mul_le_mul_right _ h0
    omega
theorem less_step {ds es out : List Nat} {k c z c' : Nat} (hd : Digits ds) (he : Digits es) (ho : Digits out) (hl : out.length = k) (hc : c ≤ 1)
    (h : val out + val (es.take k) = val (ds.take k) + c * 65536 ^ k) (hz : z + es.getD k 0 + c = ds.getD k 0 + c' * 65536) (hz2 : z < 65536) (hc' : c' ≤ 1) :
    Digits (out ++ [z]) ∧ (out ++ [z]).length = k + 1 ∧ val (out ++ [z]) + val (es.take (k + 1)) = val (ds.take (k + 1)) + c' * 65536 ^ (k + 1) := by
  refine ⟨fun x hx => ?_, by simp [hl], ?_⟩
  · rcases List.mem_append.1 hx with hx | hx
    · exact ho x hx
    · simp at hx; omega
  · rw [val_snoc, val_take_succ, val_take_succ, hl, Nat.pow_succ]
    generalize ds.getD k 0 = x at *
    generalize es.getD k 0 = y at *
    generalize 65536 ^ k = p at *
    have e1 : p * (z + y + c) = p * (x + c' * 65536) := by rw [hz]
    rw [Nat.mul_add, Nat.mul_add, Nat.mul_add] at e1
    have e2 : p * (c' * 65536) = c' * (p * 65536) := by rw [← Nat.mul_assoc, ← Nat.mul_assoc, Nat.mul_comm p c']
    rw [Nat.mul_comm c p] at h
    omega
theorem less_end {ds es out : List Nat} {k c : Nat} (hd : Digits ds) (he : Digits es) (ho : Digits out) (hl : out.length = k) (hk : k = ds.length) (hle : es.length ≤ ds.length) (hv : val es ≤ val ds) (hc : c ≤ 1)
    (h : val out + val (es.take k) = val (ds.take k) + c * 65536 ^ k) : val out = val ds - val es := by
  rw [List.take_of_length_le (by omega), List.take_of_length_le (by omega)] at h
  have h1 := val_lt ho
  rw [hl] at h1
  rcases Nat.eq_zero_or_pos c with h0 | h0
  · subst h0; omega
  · have : c = 1 := by omega
    subst this; omega
end Big

def SlPost (P : List Nat → Prop) (w : World) (e : Ending) (w' : World) : Prop := ∃ out v, e = .returned v ∧ Sl w' v (out.map dcell) ∧ Fresh w.heap.size v ∧ Big.Digits out ∧ P out ∧ Mod [] w w'

set_option maxHeartbeats 1000000 in
theorem plusD_any (u v : Value) (ds es : List Nat) (w : World) (hu : Sl w u (ds.map dcell)) (hv : Sl w v (es.map dcell)) (h1 : ds.length ≤ 1000) (h2 : es.length ≤ 1000) (hd : Big.Digits ds) (he : Big.Digits es) :
    Calls Try.prog 77 #[u, v] w (SlPost (fun out => Big.val out = Big.val ds + Big.val es ∧ out.length = max ds.length es.length + 1) w) := by
  obtain ⟨oa, ca, rfl⟩ := hu.form
  obtain ⟨ob, cb, rfl⟩ := hv.form
  simp only [List.length_map] at *
  have HU := Lib.hid (fun i hi W (m : Mod [] w W) => digit_any _ ds i W (hu.mod m) hi)
  have HV := Lib.hid (fun i hi W (m : Mod [] w W) => digit_any _ es i W (hv.mod m) hi)
  clear hu hv
  obtain ⟨i0, hi, hz0, hz1, hz2⟩ := info_parts Try.info_int
  by_cases hm : ds.length < es.length
  all_goals
    go_enter Try.func77, Try.ntmps77
    go_wp2_with fail
    go_loopw [5, 6, 7] (fun x c i wr => ∃ (k n : Nat) (out : List Nat), k ≤ max ds.length es.length + 1 ∧ i = .int .i64 (k : Int) ∧ c = .int .i64 (n : Int) ∧ n ≤ 1 ∧ out.length = k ∧ Big.Digits out ∧
      wr.ownsRow w.heap.size 3 1 x k (out.map dcell) ∧ Hid (Big.val out + n * 65536 ^ k = Big.val (ds.take k) + Big.val (es.take k)) ∧ Mod [] w wr) (fun _ _ i _ => max ds.length es.length + 1 - (intOf i).toNat)
    case atStart =>
      refine ⟨0, 0, [], by omega, rfl, rfl, by omega, rfl, by simp [Big.Digits], ?_, by simp [Hid, Big.val], (Mod.refl _ _).alloc _⟩
      exact World.ownsRow_made w #[] 0 (Nat.le_refl _) (by decide) rfl
    case round =>
      obtain ⟨k, n, out, hk, rfl, rfl, hn, hl, ho, hown, HE, hmod⟩ := hrel
      by_cases hlt : k ≤ max ds.length es.length
      · have hx := Big.digits_getD hd k
        have hy := Big.digits_getD he k
        have HS := Lib.hid (Big.plus_step hd he ho hl hn HE.out)
        have HX := Lib.hid (HU.out k (by omega) wr hmod)
        have HY := Lib.hid (HV.out k (by omega) wr hmod)
        have HMO := Lib.hid hmod
        have HOW := Lib.hid hown
        have HL := Lib.hid hl
        clear HE hmod hown hl ho
        generalize ds.getD k 0 = x at *
        generalize es.getD k 0 = y at *
        go_wp2_with fail
        refine HX.out.mono ?_
        rintro e w1 ⟨rfl, rfl⟩
        go_wp2_with fail
        refine HY.out.mono ?_
        rintro e w1 ⟨rfl, rfl⟩
        go_wp2_with (at_builtin; refine wpList_append_own _ rfl _ _ 29 rfl w.heap.size 3 i0 (.int .i64 0) 1 8 Try.underlying29 hi hz0 hz1 hz2 rfl (by decide) _ _ _ rfl (HOW.out.alloc _) ⟨wr.heap.size, 0, none⟩ 1 1 [.int .i64 (((x : Int) + y + n) % 65536)] rfl rfl ?_ ?_ ?_ ?_ ?_ ?_)
        · exact cell_one_new _ _ _
        · simp [Value.oneCell']
        · unfold maxLen; omega
        · omega
        · have := HMO.out.size; simp; omega
        intro v' w1 hown' hgrow _
        have hmod2 := Lib.hid ((HMO.out.alloc _).grown hgrow (fun b hb => (HOW.out.lt b hb).1))
        have HOW2 := Lib.hid hown'
        clear hown' hgrow
        go_wp2_with fail
        go_roundw
        case rel =>
          obtain ⟨s1, s2, s3, s4⟩ := HS.out
          refine ⟨k + 1, (x + y + n) / 65536, out ++ [(x + y + n) % 65536], by omega, by go_num, ?_, s3, s2, s1, ?_, s4, hmod2.out⟩
          · congr 1
          · have := HOW2.out
            rw [List.map_append]
            have e : [Value.int .i64 (((x : Int) + y + n) % 65536)] = [(x + y + n) % 65536].map dcell := by simp [dcell]
            rw [← e]; exact this
        case measure => simp [intOf]; omega
      · have HP := Lib.hid (Big.plus_end hd he (by omega) HE.out)
        have HMO := Lib.hid hmod
        have HOW := Lib.hid hown
        have HL := Lib.hid hl
        have HO := Lib.hid ho
        clear HE hmod hown hl ho
        go_wp2_with fail
        go_ret
        exact ⟨out, _, rfl, Sl.of_row HOW.out, fun k hk => (HOW.out.lt k hk).1, HO.out, ⟨HP.out, by rw [HL.out]; omega⟩, HMO.out⟩

set_option maxHeartbeats 1000000 in
theorem lessD_any (u v : Value) (ds es : List Nat) (w : World) (hu : Sl w u (ds.map dcell)) (hv : Sl w v (es.map dcell)) (h1 : ds.length ≤ 1000) (h2 : es.length ≤ ds.length) (hd : Big.Digits ds) (he : Big.Digits es) (hle : Big.val es ≤ Big.val ds) :
    Calls Try.prog 72 #[u, v] w (SlPost (fun out => Big.val out = Big.val ds - Big.val es ∧ out.length = ds.length) w) := by
  obtain ⟨oa, ca, rfl⟩ := hu.form
  obtain ⟨ob, cb, rfl⟩ := hv.form
  simp only [List.length_map] at *
  have HU := Lib.hid (fun i hi W (m : Mod [] w W) => digit_any _ ds i W (hu.mod m) hi)
  have HV := Lib.hid (fun i hi W (m : Mod [] w W) => digit_any _ es i W (hv.mod m) hi)
  clear hu hv
  obtain ⟨i0, hi, hz0, hz1, hz2⟩ := info_parts Try.info_int
  go_enter Try.func72, Try.ntmps72
  go_wp2_with fail
  go_loopw [5, 6, 7] (fun x c i wr => ∃ (k n : Nat) (out : List Nat), k ≤ ds.length ∧ i = .int .i64 (k : Int) ∧ c = .int .i64 (n : Int) ∧ n ≤ 1 ∧ out.length = k ∧ Big.Digits out ∧
    wr.ownsRow w.heap.size 3 1 x k (out.map dcell) ∧ Hid (Big.val out + Big.val (es.take k) = Big.val (ds.take k) + n * 65536 ^ k) ∧ Mod [] w wr) (fun _ _ i _ => ds.length - (intOf i).toNat)
  case atStart =>
    refine ⟨0, 0, [], by omega, rfl, rfl, by omega, rfl, by simp [Big.Digits], ?_, by simp [Hid, Big.val], (Mod.refl _ _).alloc _⟩
    exact World.ownsRow_made w #[] 0 (Nat.le_refl _) (by decide) rfl
  case round =>
    obtain ⟨k, n, out, hk, rfl, rfl, hn, hl, ho, hown, HE, hmod⟩ := hrel
    by_cases hlt : k < ds.length
    · have hx := Big.digits_getD hd k
      have hy := Big.digits_getD he k
      have HX := Lib.hid (HU.out k (by omega) wr hmod)
      have HY := Lib.hid (HV.out k (by omega) wr hmod)
      have HMO := Lib.hid hmod
      have HOW := Lib.hid hown
      have HL := Lib.hid hl
      have HST := Lib.hid (fun z c' hz hz2 hc' => Big.less_step (z := z) (c' := c') hd he ho hl hn HE.out hz hz2 hc')
      clear HE hmod hown hl ho
      generalize ds.getD k 0 = x at *
      generalize es.getD k 0 = y at *
      by_cases hb : x < y + n
      · obtain ⟨z, hz⟩ : ∃ z, z = x + 65536 - y - n := ⟨_, rfl⟩
        have HS := Lib.hid (HST.out z 1 (by omega) (by omega) (by omega))
        have HZ := Lib.hid (show (x : Int) - y - n + 65536 = z by omega)
        have d1 : decide ((x : Int) - y - n < 0) = true := by simp; omega
        clear HST hz
        go_wp2_with fail
        refine HX.out.mono ?_
        rintro e w1 ⟨rfl, rfl⟩
        go_wp2_with fail
        refine HY.out.mono ?_
        rintro e w1 ⟨rfl, rfl⟩
        go_wp2_with (at_builtin; refine wpList_append_own _ rfl _ _ 29 rfl w.heap.size 3 i0 (.int .i64 0) 1 8 Try.underlying29 hi hz0 hz1 hz2 rfl (by decide) _ _ _ rfl (HOW.out.alloc _) ⟨wr.heap.size, 0, none⟩ 1 1 [.int .i64 ((x : Int) - y - n + 65536)] rfl rfl ?_ ?_ ?_ ?_ ?_ ?_)
        · exact cell_one_new _ _ _
        · simp [Value.oneCell']
        · unfold maxLen; omega
        · omega
        · have := HMO.out.size; simp; omega
        intro v' w1 hown' hgrow _
        have hmod2 := Lib.hid ((HMO.out.alloc _).grown hgrow (fun b hb => (HOW.out.lt b hb).1))
        have HOW2 := Lib.hid hown'
        clear hown' hgrow
        go_wp2_with fail
        go_roundw
        case rel =>
          obtain ⟨s1, s2, s4⟩ := HS.out
          refine ⟨k + 1, 1, out ++ [z], by omega, by go_num, rfl, by omega, s2, s1, ?_, s4, hmod2.out⟩
          have := HOW2.out
          rw [HZ.out] at this
          rw [List.map_append]
          exact this
        case measure => simp [intOf]; omega
      · obtain ⟨z, hz⟩ : ∃ z, z = x - y - n := ⟨_, rfl⟩
        have HS := Lib.hid (HST.out z 0 (by omega) (by omega) (by omega))
        have HZ := Lib.hid (show (x : Int) - y - n = z by omega)
        have d1 : decide ((x : Int) - y - n < 0) = false := by simp; omega
        clear HST hz
        go_wp2_with fail
        refine HX.out.mono ?_
        rintro e w1 ⟨rfl, rfl⟩
        go_wp2_with fail
        refine HY.out.mono ?_
        rintro e w1 ⟨rfl, rfl⟩
        go_wp2_with (at_builtin; refine wpList_append_own _ rfl _ _ 29 rfl w.heap.size 3 i0 (.int .i64 0) 1 8 Try.underlying29 hi hz0 hz1 hz2 rfl (by decide) _ _ _ rfl (HOW.out.alloc _) ⟨wr.heap.size, 0, none⟩ 1 1 [.int .i64 ((x : Int) - y - n)] rfl rfl ?_ ?_ ?_ ?_ ?_ ?_)
        · exact cell_one_new _ _ _
        · simp [Value.oneCell']
        · unfold maxLen; omega
        · omega
        · have := HMO.out.size; simp; omega
        intro v' w1 hown' hgrow _
        have hmod2 := Lib.hid ((HMO.out.alloc _).grown hgrow (fun b hb => (HOW.out.lt b hb).1))
        have HOW2 := Lib.hid hown'
        clear hown' hgrow
        go_wp2_with fail
        go_roundw
        case rel =>
          obtain ⟨s1, s2, s4⟩ := HS.out
          refine ⟨k + 1, 0, out ++ [z], by omega, by go_num, rfl, by omega, s2, s1, ?_, s4, hmod2.out⟩
          have := HOW2.out
          rw [HZ.out] at this
          rw [List.map_append]
          exact this
        case measure => simp [intOf]; omega
    · have HP := Lib.hid (Big.less_end hd he ho hl (by omega) h2 hle hn HE.out)
      have HMO := Lib.hid hmod
      have HOW := Lib.hid hown
      have HL := Lib.hid hl
      have HO := Lib.hid ho
      clear HE hmod hown hl ho
      go_wp2_with fail
      go_ret
      exact ⟨out, _, rfl, Sl.of_row HOW.out, fun k hk => (HOW.out.lt k hk).1, HO.out, ⟨HP.out, by rw [HL.out]; omega⟩, HMO.out⟩
end Go.Proofs.Ytngeijdfpgmcfaa

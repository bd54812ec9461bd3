/- The walk of TableMany. -/
import Derived.Test.YtoidfnknckfjhaaGreatDoorTabDec
import Derived.Test.YtoidfnknckfjhaaGreatDoorTabShown
import Derived.Test.YtoidfnknckfjhaaGreatDoorTabRow
namespace Go.Proofs.YtoidfnknckfjhaaGreatDoor
open Go.RowKit
set_option linter.unusedVariables false

set_option maxRecDepth 10000 in
set_option maxHeartbeats 4000000 in
theorem many_walk (n : Int) (b : Bool) (w : World) (h : @Ev.LaidIn Tab.tagsVal w) (hn : 0 ≤ n ∧ n ≤ 255) :
    Calls Tryz.prog 3 #[.int .u8 n, .bool b] w fun e w' => e = .returned (.bool true) ∧ Below w.heap.size w w' := by
  have HS := Lib.hid (shown_true w h)
  have HG : Hid (Blk w 0 Tab.tagCells 64) := h 0 _ rfl
  clear h
  obtain ⟨xn, rfl⟩ := Int.eq_ofNat_of_zero_le hn.1
  obtain ⟨r, hr, hr2, hr7⟩ : ∃ r : Nat, (xn : Int) % 7 = (r : Int) ∧ Int.tmod (xn : Int) 7 = (r : Int) ∧ r < 7 := ⟨xn % 7, by omega, by rw [Int.tmod_eq_emod_of_nonneg (by omega)]; omega, by omega⟩
  obtain ⟨q, hq, hq2, hq8⟩ : ∃ q : Nat, (xn : Int) % 8 = (q : Int) ∧ Int.tmod (xn : Int) 8 = (q : Int) ∧ q < 8 := ⟨xn % 8, by omega, by rw [Int.tmod_eq_emod_of_nonneg (by omega)]; omega, by omega⟩
  obtain ⟨m, hm, hmd⟩ : ∃ m : Nat, (1048573 : Int) + (r : Int) = (m : Int) ∧ m = 1048573 + r := ⟨_, by omega, rfl⟩
  have HQ8 := Lib.hid hq8
  have HMD : Hid (1048573 ≤ m ∧ m ≤ 1048579) := by show _ ∧ _; omega
  have hr3 : (r : Int) < 7 := by omega
  clear hn hr7 hq8 hmd
  go_enter Tryz.func3, Tryz.ntmps3
  go_wp2_with fail
  refine HS.out.mono ?_
  rintro e w1 ⟨rfl, hb1⟩
  have HM := Lib.hid (Mod.of_below hb1)
  clear hb1 HS
  obtain ⟨cs, hmk, hcs, hcl, hrow⟩ := make_row w1 w.heap.size m (by have := HMD.out; omega) HM.out.size
  obtain ⟨w2, hcp, hm2, hrow2⟩ := copy_head w1 w.heap.size m (by have := HMD.out; omega) (by have := HMD.out; omega) HM.out.size cs hcs hcl 3
  have HR1 := Lib.hid hrow
  have HR2 := Lib.hid hrow2
  have HM2 := Lib.hid (HM.out.then hm2)
  have HM1 : Hid (Mod [] w (w1.alloc (.cells cs 5))) := HM.out.alloc _
  clear hcs hcl hrow hrow2 hm2
  cases b with
  | true =>
    go_upto_region 6 with fail
    have HDS : Hid (m ≤ 1048576 → ∀ W', Mod [] w W' → Calls Tryz.prog 6 #[.string (bs (Tab.begun (m - 8)))] W' fun e w' => e = .returned (.tuple #[.slice none 0 0, .int .i64 11]) ∧ Mod [] W' w') := fun hle W' mw => by
      have h1 := HMD.out
      exact dir_begins (m - 8) (by omega) (by omega) W' (HG.out.kept mw (by simp))
    have HLen : Hid ((Tab.begun (m - 8)).length = m) := by show _ = _; rw [Tab.begun_length]; have := HMD.out; omega
    have HRow := HR2
    have HMz := HM2
    clear hmk hcp HR1 HR2 HM1 HM2
    generalize Tab.begun (m - 8) = l at *
    generalize w2 = wz at *
    generalize w1.heap.size = g at *
    obtain ⟨E, hE0, hEs, hdir⟩ : ∃ E : Int, E ≠ 0 ∧ (if 1048576 < m then E = 2 else E = 11) ∧ ∀ W', Mod [] w W' → Calls Tryz.prog 6 #[.string (bs l)] W' fun e w' => e = .returned (.tuple #[.slice none 0 0, .int .i64 E]) ∧ Mod [] W' w' := by
      by_cases hb : 1048576 < m
      · exact ⟨2, by decide, by rw [if_pos hb], fun W' _ => dir_many (bs l) (by rw [bs_size, HLen.out]; exact hb) W'⟩
      · exact ⟨11, by decide, by rw [if_neg hb], HDS.out (by omega)⟩
    have HDir := Lib.hid hdir
    have HE0 := Lib.hid hE0
    have HEs := Lib.hid hEs
    have HSh : Hid (∀ W', Calls Tryz.prog 6 #[.string (bs (l.take q))] W' fun e w' => e = .returned (.tuple #[.slice none 0 0, .int .i64 10]) ∧ Mod [] W' w') := fun W' => dir_short _ (by rw [bs_size, List.length_take]; have := HQ8.out; omega) W'
    have AC : ∀ W', Mod [] wz W' → (convert 23 9 (.slice (some ⟨g, 0, none⟩) m m)).run Tryz.prog W' = .ok (.string (bs l)) W' := fun W' mw => by
      have h9 := HRow.out.mod mw (by simp)
      rw [← HLen.out] at h9 ⊢
      exact h9.conv 23 9 5 (by kernel_rfl) (by kernel_rfl) (by kernel_rfl)
    have AT : ∀ W', Mod [] wz W' → (convert 23 9 (.slice (some ⟨g, 0, none⟩) q m)).run Tryz.prog W' = .ok (.string (bs (l.take q))) W' := fun W' mw => by
      have h1 := HQ8.out
      have h2 := HMD.out
      have h9 := HRow.out
      rw [← HLen.out] at h9
      obtain ⟨g2, cap2, h3, -, -, -, -, -, h4⟩ := h9.at
      have h5 := h4 q (by rw [HLen.out]; omega)
      cases h3
      have h6 := h5.mod mw (by simp)
      have e : (l.take q).length = q := by rw [List.length_take, HLen.out]; omega
      have h8 : (convert 23 9 (.slice (some ⟨g, 0, none⟩) (l.take q).length l.length)).run Tryz.prog W' = .ok (.string (bs (l.take q))) W' := RowM.conv (by rw [e]; exact h6) 23 9 5 (by kernel_rfl) (by kernel_rfl) (by kernel_rfl)
      rw [e, HLen.out] at h8
      exact h8
    have HAC := Lib.hid AC
    have HAT := Lib.hid AT
    have ac := HAC.out wz (Mod.refl _ _)
    clear AC AT hdir hE0 hEs HDS
    go_wp2_with fail
    refine (dec_no (bs l) E HE0.out _ fun W' mw => HDir.out W' (HMz.out.then mw)).mono ?_
    rintro e w3 ⟨rfl, hm3⟩
    have H3 := Lib.hid hm3
    have ac2 := HAC.out _ (H3.out.alloc (.cells #[.int .i64 0, .slice none 0 0, .slice none 0 0, .slice none 0 0, .slice none 0 0, .slice none 0 0, .slice none 0 0, .slice none 0 0, .slice none 0 0] 33))
    clear hm3 ac
    go_wp2_with fail
    refine (HDir.out _ (HMz.out.then (H3.out.alloc _))).mono ?_
    rintro e w4 ⟨rfl, hm4⟩
    have H4 := Lib.hid ((H3.out.alloc (.cells #[.int .i64 0, .slice none 0 0, .slice none 0 0, .slice none 0 0, .slice none 0 0, .slice none 0 0, .slice none 0 0, .slice none 0 0, .slice none 0 0] 33)).then hm4)
    have at4 := HAT.out w4 H4.out
    have hqm : (q : Int) ≤ (m : Int) := by have h1 := HQ8.out; have h2 := HMD.out; omega
    clear hm4 ac2 H3
    go_wp2_with fail
    refine (dec_no (bs (l.take q)) 10 (by decide) w4 fun W' _ => HSh.out W').mono ?_
    rintro e w5 ⟨rfl, hm5⟩
    have H5 := Lib.hid (HMz.out.then (H4.out.then hm5))
    clear hm5 at4 H4
    have hEs := HEs.out
    by_cases hb : 1048576 < m
    · rw [if_pos hb] at hEs
      subst hEs
      have hb1 : (1048576 : Int) < (m : Int) := by omega
      go_wp2_with fail
      go_ret
      exact ⟨rfl, (H5.out.alloc _).to_below⟩
    · rw [if_neg hb] at hEs
      subst hEs
      have hb1 : ¬ (1048576 : Int) < (m : Int) := by omega
      go_wp2_with fail
      go_ret
      exact ⟨rfl, (H5.out.alloc _).to_below⟩
  | false =>
    go_upto_region 6 with fail
    have HDS : Hid (m ≤ 1048576 → ∀ W', Mod [] w W' → Calls Tryz.prog 6 #[.string (bs (List.replicate m 0))] W' fun e w' => e = .returned (.tuple #[.slice none 0 0, .int .i64 11]) ∧ Mod [] W' w') := fun hle W' mw => by
      have h1 := HMD.out
      refine dir_form _ (by rw [bs_size, List.length_replicate]; omega) (by rw [bs_size, List.length_replicate]; exact hle) ?_ W'
      rw [bs_data, List.take_replicate, Nat.min_eq_left (by omega)]
      decide
    have HLen : Hid ((List.replicate m (0 : UInt8)).length = m) := by show _ = _; rw [List.length_replicate]
    have HRow := HR1
    have HMz := HM1
    clear hmk hcp HR1 HR2 HM1 HM2
    generalize List.replicate m (0 : UInt8) = l at *
    generalize w1.alloc (.cells cs 5) = wz at *
    generalize w1.heap.size = g at *
    obtain ⟨E, hE0, hEs, hdir⟩ : ∃ E : Int, E ≠ 0 ∧ (if 1048576 < m then E = 2 else E = 11) ∧ ∀ W', Mod [] w W' → Calls Tryz.prog 6 #[.string (bs l)] W' fun e w' => e = .returned (.tuple #[.slice none 0 0, .int .i64 E]) ∧ Mod [] W' w' := by
      by_cases hb : 1048576 < m
      · exact ⟨2, by decide, by rw [if_pos hb], fun W' _ => dir_many (bs l) (by rw [bs_size, HLen.out]; exact hb) W'⟩
      · exact ⟨11, by decide, by rw [if_neg hb], HDS.out (by omega)⟩
    have HDir := Lib.hid hdir
    have HE0 := Lib.hid hE0
    have HEs := Lib.hid hEs
    have HSh : Hid (∀ W', Calls Tryz.prog 6 #[.string (bs (l.take q))] W' fun e w' => e = .returned (.tuple #[.slice none 0 0, .int .i64 10]) ∧ Mod [] W' w') := fun W' => dir_short _ (by rw [bs_size, List.length_take]; have := HQ8.out; omega) W'
    have AC : ∀ W', Mod [] wz W' → (convert 23 9 (.slice (some ⟨g, 0, none⟩) m m)).run Tryz.prog W' = .ok (.string (bs l)) W' := fun W' mw => by
      have h9 := HRow.out.mod mw (by simp)
      rw [← HLen.out] at h9 ⊢
      exact h9.conv 23 9 5 (by kernel_rfl) (by kernel_rfl) (by kernel_rfl)
    have AT : ∀ W', Mod [] wz W' → (convert 23 9 (.slice (some ⟨g, 0, none⟩) q m)).run Tryz.prog W' = .ok (.string (bs (l.take q))) W' := fun W' mw => by
      have h1 := HQ8.out
      have h2 := HMD.out
      have h9 := HRow.out
      rw [← HLen.out] at h9
      obtain ⟨g2, cap2, h3, -, -, -, -, -, h4⟩ := h9.at
      have h5 := h4 q (by rw [HLen.out]; omega)
      cases h3
      have h6 := h5.mod mw (by simp)
      have e : (l.take q).length = q := by rw [List.length_take, HLen.out]; omega
      have h8 : (convert 23 9 (.slice (some ⟨g, 0, none⟩) (l.take q).length l.length)).run Tryz.prog W' = .ok (.string (bs (l.take q))) W' := RowM.conv (by rw [e]; exact h6) 23 9 5 (by kernel_rfl) (by kernel_rfl) (by kernel_rfl)
      rw [e, HLen.out] at h8
      exact h8
    have HAC := Lib.hid AC
    have HAT := Lib.hid AT
    have ac := HAC.out wz (Mod.refl _ _)
    clear AC AT hdir hE0 hEs HDS
    go_wp2_with fail
    refine (dec_no (bs l) E HE0.out _ fun W' mw => HDir.out W' (HMz.out.then mw)).mono ?_
    rintro e w3 ⟨rfl, hm3⟩
    have H3 := Lib.hid hm3
    have ac2 := HAC.out _ (H3.out.alloc (.cells #[.int .i64 0, .slice none 0 0, .slice none 0 0, .slice none 0 0, .slice none 0 0, .slice none 0 0, .slice none 0 0, .slice none 0 0, .slice none 0 0] 33))
    clear hm3 ac
    go_wp2_with fail
    refine (HDir.out _ (HMz.out.then (H3.out.alloc _))).mono ?_
    rintro e w4 ⟨rfl, hm4⟩
    have H4 := Lib.hid ((H3.out.alloc (.cells #[.int .i64 0, .slice none 0 0, .slice none 0 0, .slice none 0 0, .slice none 0 0, .slice none 0 0, .slice none 0 0, .slice none 0 0, .slice none 0 0] 33)).then hm4)
    have at4 := HAT.out w4 H4.out
    have hqm : (q : Int) ≤ (m : Int) := by have h1 := HQ8.out; have h2 := HMD.out; omega
    clear hm4 ac2 H3
    go_wp2_with fail
    refine (dec_no (bs (l.take q)) 10 (by decide) w4 fun W' _ => HSh.out W').mono ?_
    rintro e w5 ⟨rfl, hm5⟩
    have H5 := Lib.hid (HMz.out.then (H4.out.then hm5))
    clear hm5 at4 H4
    have hEs := HEs.out
    by_cases hb : 1048576 < m
    · rw [if_pos hb] at hEs
      subst hEs
      have hb1 : (1048576 : Int) < (m : Int) := by omega
      go_wp2_with fail
      go_ret
      exact ⟨rfl, (H5.out.alloc _).to_below⟩
    · rw [if_neg hb] at hEs
      subst hEs
      have hb1 : ¬ (1048576 : Int) < (m : Int) := by omega
      go_wp2_with fail
      go_ret
      exact ⟨rfl, (H5.out.alloc _).to_below⟩
end Go.Proofs.YtoidfnknckfjhaaGreatDoor

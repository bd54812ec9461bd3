/- The walk of CodecOnly. -/
import Derived.Test.YtjgklacbelggdaaGreatDoorCodShown
import Derived.Test.YtjgklacbelggdaaGreatDoorCodBackP
import Derived.Test.YtjgklacbelggdaaGreatDoorRowSet
import Derived.Test.YtjgklacbelggdaaGreatDoorCodLong
namespace Go.Proofs.YtjgklacbelggdaaGreatDoor
open Go.RowKit
set_option linter.unusedVariables false

set_option maxRecDepth 100000 in
set_option maxHeartbeats 4000000 in
theorem only_walk (s : ByteArray) (at_ t : Int) (w : World) (h : @Ev.LaidIn Cod.tagsVal w) (hs : s.size ≤ maxLen) (hat : -9223372036854775808 ≤ at_ ∧ at_ ≤ 9223372036854775807) (hx : 0 ≤ t ∧ t ≤ 255) :
    Calls Tryz.prog 6 #[.string s, .int .i64 at_, .int .u8 t] w fun e w' => e = .returned (.bool true) ∧ Below w.heap.size w w' := by
  have HS := Lib.hid (shown_true w h)
  clear h
  go_enter Tryz.func6, Tryz.ntmps6
  go_wp2_with fail
  refine HS.out.mono ?_
  rintro e w1 ⟨rfl, hb1⟩
  have HM := Lib.hid (Mod.of_below hb1)
  clear hb1
  go_wp2_with fail
  have hSs : (s.extract 0 (min (s.size : Int) 200).toNat).size ≤ 200 := by rw [ByteArray.size_extract]; omega
  generalize s.extract 0 (min (s.size : Int) 200).toNat = S at *
  obtain ⟨l, rfl⟩ : ∃ l, S = bs l := ⟨S.data.toList, (bs_of S).symm⟩
  obtain ⟨tn, rfl⟩ := Int.eq_ofNat_of_zero_le hx.1
  have htn : tn < 256 := by omega
  obtain ⟨x, hex, hxl⟩ : ∃ x : List UInt8, (bs l).extract 0 (min ((bs l).size : Int) 100).toNat = bs x ∧ x.length ≤ 100 := ⟨_, (bs_of _).symm, by
    have : ((bs l).extract 0 (min ((bs l).size : Int) 100).toNat).size ≤ 100 := by rw [ByteArray.size_extract]; omega
    exact this⟩
  have HEX := Lib.hid hex
  have HTN := Lib.hid htn
  have HXL := Lib.hid hxl
  clear hex hx htn hxl
  have hU := unpack_any (bs l) (by omega) w1
  have hcase : ∃ (r : List UInt8) (n : Int), Cod.unS (bs l) = (bs r, n) ∧ ((n = 0 ∧ Cod.packS (bs r) = bs l) ∨ ((n = 2 ∨ n = 10 ∨ n = 11) ∧ r = [])) := by
    rcases Cod.unS_cases (bs l) with ⟨r, h1, h2, h3⟩ | ⟨n, h1, h2⟩
    · exact ⟨r, 0, h1, .inl ⟨rfl, by rw [Cod.packS_is r h3, h2]⟩⟩
    · exact ⟨[], n, h2, .inr ⟨h1, rfl⟩⟩
  obtain ⟨r, n, hun, hcs⟩ := hcase
  rw [hun] at hU
  have HCS := Lib.hid hcs
  clear hun hcs
  refine hU.mono ?_
  rintro e w2 ⟨rfl, hm2⟩
  have HM2 := Lib.hid (HM.out.then hm2)
  clear hU hm2
  have HL : Hid (l.length ≤ 1048576) := by show (bs l).size ≤ 1048576; omega
  rcases HCS.out with ⟨rfl, hpk⟩ | ⟨hn, rfl⟩
  case' inl =>
    go_wp2_with fail
    have hP := pack_all (bs r) w2
    rw [hpk] at hP
    clear hpk
    refine hP.mono ?_
    rintro e w3 ⟨rfl, hm3⟩
    have HM3 := Lib.hid (HM2.out.then hm3)
    clear hP hm3 HM2 HM
    go_wp2_with fail
  case' inr =>
    have k1 : (n == 0) = false := by rcases hn with rfl | rfl | rfl <;> rfl
    have k2 : (n != 0) = true := by rcases hn with rfl | rfl | rfl <;> rfl
    rw [show bs [] = (⟨#[]⟩ : ByteArray) from rfl]
    clear hn
    have HM3 := HM2
    clear HM2 HM
    go_wp2_with fail
    generalize w2 = w3 at *
  all_goals
    rw [HEX.out]
    have hxl : x.length ≤ 1048576 := by have := HXL.out; omega
    have hP := pack_all (bs x) w3
    rw [Cod.packS_is x hxl] at hP
    have HUX := Lib.hid (Cod.unS_packS x hxl)
    have HPX : Hid (∀ t, t.length ≤ 1048576 → Cod.packed t = Cod.packed x → t = x) := fun t h1 h2 => Cod.packed_inj h1 hxl h2
    have HPQ : ∀ Q, Q ≠ Cod.packed x → ∀ t, t = x → Q ≠ Cod.packed t := fun Q h1 t h2 => h2 ▸ h1
    have hp8 := Cod.packed_length x
    have hple := Cod.packed_le x
    generalize hPd : Cod.packed x = P at *
    have hs1 : 8 ≤ (bs P).size := hp8
    have hs2 : (bs P).size ≤ 200000 := by rw [bs_size]; have := HXL.out; omega
    have hPl : P.length = (bs P).size := rfl
    clear hp8 hple hxl hPd
    refine hP.mono ?_
    rintro e w4 ⟨rfl, hm4⟩
    have HM4 := Lib.hid (HM3.out.then hm4)
    clear hP hm4 HM3
    obtain ⟨v0, w5, hc5, hrow5, hm5⟩ := bytes_rowM (P := Tryz.prog) w4 w.heap.size 9 28 (bs P) (by kernel_rfl) (by kernel_rfl) (by kernel_rfl) (by unfold maxLen; omega) HM4.out.size
    rw [bs_data] at hrow5
    obtain ⟨g, cap, rfl, hcap, hcell, hfro, hge, hset, -⟩ := hrow5.at
    have HM5 := Lib.hid (HM4.out.then hm5)
    obtain ⟨k, hk1, hk2, hk3⟩ : ∃ k : Nat, Int.tmod (at_ % 65536) ((bs P).size : Int) = (k : Int) ∧ at_ % 65536 % ((bs P).size : Int) = (k : Int) ∧ k < (bs P).size := by
      have h1 : 0 ≤ at_ % 65536 % ((bs P).size : Int) := Int.emod_nonneg _ (by omega)
      have h2 : at_ % 65536 % ((bs P).size : Int) < ((bs P).size : Int) := Int.emod_lt_of_pos _ (by omega)
      refine ⟨(at_ % 65536 % ((bs P).size : Int)).toNat, ?_, by omega, by omega⟩
      rw [Int.tmod_eq_emod_of_nonneg (by omega)]
      omega
    have e1 := and16 at_
    obtain ⟨u, hu⟩ : ∃ u, P[k]? = some u := ⟨P[k]'(by rw [hPl]; exact hk3), List.getElem?_eq_getElem _⟩
    have hck := hcell k u hu
    have hfk := hfro k (by rw [hPl]; exact hk3)
    have hxor := xor_byte u tn HTN.out
    obtain ⟨Y, hY⟩ : ∃ Y, Y = P.set k (u ^^^ UInt8.ofNat tn) := ⟨_, rfl⟩
    have hYl : Y.length = (bs P).size := by rw [hY, List.length_set]; rfl
    have HRow : Hid (RowM (w5.setCell ⟨g, k, none⟩ (.int .u8 (u ^^^ UInt8.ofNat tn).toNat)) w.heap.size (.slice (some ⟨g, 0, none⟩) (bs P).size cap) Y) := by
      have h9 := hset k (u ^^^ UInt8.ofNat tn) (by rw [hPl]; exact hk3)
      rw [← hY, hPl] at h9
      exact h9
    have HM6 : Hid (Mod [] w (w5.setCell ⟨g, k, none⟩ (.int .u8 (u ^^^ UInt8.ofNat tn).toNat))) := HM5.out.setNew (p := ⟨g, k, none⟩) hge _
    have HY0 : Hid (tn = 0 → Y = P) := fun h0 => by rw [hY, h0, xor_zero, set_same hu]
    have HY1 : Hid (tn ≠ 0 → Y ≠ P) := fun h0 => by rw [hY]; exact set_other hu (xor_other u tn HTN.out h0)
    have HYL := Lib.hid hYl
    clear hset hcell hfro hge hm5 HM4 HM5 hrow5 hY hYl
    have hcap2 : (bs P).size ≤ cap := by rw [← hPl]; exact hcap
    rw [hPl] at hc5
    have hk4 : (k : Int) < ((bs P).size : Int) := by omega
    have hz : (((bs P).size : Int) == 0) = false := by rw [beq_eq_false_iff_ne]; omega
    clear hcap
    generalize (u ^^^ UInt8.ofNat tn).toNat = y at *
    have hcv : (convert 28 9 (.slice (some ⟨g, 0, none⟩) (bs P).size cap)).run Tryz.prog (w5.setCell ⟨g, k, none⟩ (.int .u8 y)) = .ok (.string (bs Y)) (w5.setCell ⟨g, k, none⟩ (.int .u8 y)) := by
      have h9 := HRow.out
      rw [← HYL.out] at h9 ⊢
      exact h9.conv 28 9 5 (by kernel_rfl) (by kernel_rfl) (by kernel_rfl)
    go_wp2_with fail
    have hYs : (bs Y).size ≤ 1152921504606846976 := by rw [bs_size]; have := HYL.out; omega
    have hU := unpack_any (bs Y) hYs (w5.setCell ⟨g, k, none⟩ (.int .u8 y))
    clear hcv hck hfk hxor hc5 e1 hYs
    generalize w5.setCell ⟨g, k, none⟩ (.int .u8 y) = w6 at *
    by_cases ht0 : tn = 0
    · subst ht0
      rw [HY0.out rfl, HUX.out] at hU
      rw [HY0.out rfl]
      refine hU.mono ?_
      rintro e w7 ⟨rfl, hm7⟩
      have HM7 := Lib.hid (HM6.out.then hm7)
      have hex := HEX.out
      clear hU hm7
      rw [show ((0 : Nat) : Int) = 0 from rfl]
      go_wp2_with fail
      go_ret
      exact ⟨rfl, HM7.out.to_below⟩
    · have ht1 : ((tn : Int) == 0) = false := by rw [beq_eq_false_iff_ne]; omega
      have HYP := Lib.hid (HY1.out ht0)
      rcases Cod.unS_cases (bs Y) with ⟨t2, hu1, hu2, hu3⟩ | ⟨n2, hn2, hu1⟩
      · rw [hu1] at hU
        refine hU.mono ?_
        rintro e w7 ⟨rfl, hm7⟩
        have HM7 := Lib.hid (HM6.out.then hm7)
        have hne : t2 ≠ x := fun h5 => HPQ Y HYP.out t2 h5 (bs_inj hu2)
        have hrow7 := HRow.out.mod hm7 (by simp)
        have hpk := Cod.packS_is t2 hu3
        rw [← hu2] at hpk
        have HPK : Hid (∀ W', Mod [] w7 W' → Calls Tryz.prog 10 #[.string (bs t2)] W' fun e w'' => e = .returned (.string (bs Y)) ∧ Mod [] W' w'') := fun W' m => by
          have h9 := pack_all (bs t2) W'
          rw [hpk] at h9
          exact h9
        have AC : ∀ W', Mod [] w7 W' → (convert 28 9 (.slice (some ⟨g, 0, none⟩) (bs P).size cap)).run Tryz.prog W' = .ok (.string (bs Y)) W' := fun W' m => by
          have h9 := hrow7.mod m (by simp)
          rw [← HYL.out] at h9 ⊢
          exact h9.conv 28 9 5 (by kernel_rfl) (by kernel_rfl) (by kernel_rfl)
        have hne2 : ((bs t2).toList == (bs x).toList) = false := by
          rw [ByteArray.toList_eq, ByteArray.toList_eq, bs_data, bs_data]
          simpa using hne
        clear hU hm7 hu1 ht0 hu2 hpk hrow7 hne HPQ
        go_wp2_with fail
        have hex := HEX.out
        refine wp_region_mask 22 [true, true, true, true, true, true, true, true, true, true, true, true, true, true, true, true, true, true, true, true, true, true] [] (by kernel_rfl) (by kernel_rfl) (by simp) ?_
        simp only [pickM]
        refine steady_go (a' := ?_) (by kernel_rfl) ?_ (fun w' hw' K Q hK => ?_) ?_
        rotate_left 2
        · go_wp2_with fail; exact hK _ (Mod.refl _ _)
        rotate_left
        · rfl
        refine steady_go (a' := ?_) (by kernel_rfl) ?_ (fun w' hw' K Q hK => ?_) ?_
        rotate_left 2
        · go_wp2_with fail; exact hK _ (Mod.refl _ _)
        rotate_left
        · rfl
        refine steady_go (a' := ?_) (by kernel_rfl) ?_ (fun w' hw' K Q hK => ?_) ?_
        rotate_left 2
        · go_wp2_with fail; exact hK _ (Mod.refl _ _)
        rotate_left
        · rfl
        refine steady_go (a' := ?_) (by kernel_rfl) ?_ (fun w' hw' K Q hK => ?_) ?_
        rotate_left 2
        · go_wp2_with fail; exact hK _ (Mod.refl _ _)
        rotate_left
        · rfl
        refine steady_go (a' := ?_) (by kernel_rfl) ?_ (fun w' hw' K Q hK => ?_) ?_
        rotate_left 2
        · go_wp2_with fail; exact hK _ (Mod.refl _ _)
        rotate_left
        · rfl
        refine steady_go (a' := ?_) (by kernel_rfl) ?_ (fun w' hw' K Q hK => ?_) ?_
        rotate_left 2
        · go_wp2_with fail; exact hK _ (Mod.refl _ _)
        rotate_left
        · rfl
        refine steady_go (a' := ?_) (by kernel_rfl) ?_ (fun w' hw' K Q hK => ?_) ?_
        rotate_left 2
        · go_wp2_with fail; exact hK _ (Mod.refl _ _)
        rotate_left
        · rfl
        refine steady_go (a' := ?_) (by kernel_rfl) ?_ (fun w' hw' K Q hK => ?_) ?_
        rotate_left 2
        · go_wp2_with fail; exact hK _ (Mod.refl _ _)
        rotate_left
        · rfl
        refine steady_go (a' := ?_) (by kernel_rfl) ?_ (fun w' hw' K Q hK => ?_) ?_
        rotate_left 2
        · go_wp2_with fail; exact hK _ (Mod.refl _ _)
        rotate_left
        · rfl
        refine steady_go (a' := ?_) (by kernel_rfl) ?_ (fun w' hw' K Q hK => ?_) ?_
        rotate_left 2
        · go_wp2_with fail; exact hK _ (Mod.refl _ _)
        rotate_left
        · rfl
        refine steady_go (a' := ?_) (by kernel_rfl) ?_ (fun w' hw' K Q hK => ?_) ?_
        rotate_left 2
        · go_wp2_with fail; exact hK _ (Mod.refl _ _)
        rotate_left
        · rfl
        refine steady_go (a' := ?_) (by kernel_rfl) ?_ (fun w' hw' K Q hK => ?_) ?_
        rotate_left 2
        · go_wp2_with fail; exact hK _ (Mod.refl _ _)
        rotate_left
        · rfl
        refine steady_go (a' := ?_) (by kernel_rfl) ?_ (fun w' hw' K Q hK => ?_) ?_
        rotate_left 2
        · go_wp2_with fail; exact hK _ (Mod.refl _ _)
        rotate_left
        · rfl
        refine steady_go (a' := ?_) (by kernel_rfl) ?_ (fun w' hw' K Q hK => ?_) ?_
        rotate_left 2
        · go_wp2_with fail; exact hK _ (Mod.refl _ _)
        rotate_left
        · rfl
        refine steady_go (a' := ?_) (by kernel_rfl) ?_ (fun w' hw' K Q hK => ?_) ?_
        rotate_left 2
        · go_wp2_with fail
          refine ((HPK.out) _ hw').mono ?_
          rintro e w'' ⟨rfl, m''⟩
          go_wp2_with fail
          exact hK _ m''
        rotate_left
        · rfl
        refine steady_go (a' := ?_) (by kernel_rfl) ?_ (fun w' hw' K Q hK => ?_) ?_
        rotate_left 2
        · go_wp2_with fail; exact hK _ (Mod.refl _ _)
        rotate_left
        · rfl
        refine steady_go (a' := ?_) (by kernel_rfl) ?_ (fun w' hw' K Q hK => ?_) ?_
        rotate_left 2
        · go_wp2_with fail; exact hK _ (Mod.refl _ _)
        rotate_left
        · rfl
        refine steady_go (a' := ?_) (by kernel_rfl) ?_ (fun w' hw' K Q hK => ?_) ?_
        rotate_left 2
        · go_wp2_with fail; exact hK _ (Mod.refl _ _)
        rotate_left
        · rfl
        refine steady_go (a' := ?_) (by kernel_rfl) ?_ (fun w' hw' K Q hK => ?_) ?_
        rotate_left 2
        · go_wp2_with fail; exact hK _ (Mod.refl _ _)
        rotate_left
        · rfl
        refine steady_go (a' := ?_) (by kernel_rfl) ?_ (fun w' hw' K Q hK => ?_) ?_
        rotate_left 2
        · go_wp2_with fail; exact hK _ (Mod.refl _ _)
        rotate_left
        · rfl
        refine steady_go (a' := ?_) (by kernel_rfl) ?_ (fun w' hw' K Q hK => ?_) ?_
        rotate_left 2
        · go_wp2_with fail; exact hK _ (Mod.refl _ _)
        rotate_left
        · rfl
        refine steady_go (a' := ?_) (by kernel_rfl) ?_ (fun w' hw' K Q hK => ?_) ?_
        rotate_left 2
        · go_wp2_with fail; exact hK _ (Mod.refl _ _)
        rotate_left
        · rfl
        refine steady_done ?_
        refine lates_end (fun w' hw' _ => ?_)
        simp only [List.drop_succ_cons, List.drop_zero]
        go_wp2_with fail
        go_ret
        exact ⟨rfl, (HM7.out.then hw').to_below⟩
      · rw [hu1] at hU
        refine hU.mono ?_
        rintro e w7 ⟨rfl, hm7⟩
        have HM7 := Lib.hid (HM6.out.then hm7)
        have k3 : (n2 != 0) = true := by rcases hn2 with rfl | rfl | rfl <;> rfl
        clear hU hm7 hu1 ht0 hn2 HPQ
        go_wp2_with fail
        refine wp_region_mask 22 [true, true, true, true, true, true, true, true, true, true, true, true, true, true, true, true, true, true, true, true, true, true] [] (by kernel_rfl) (by kernel_rfl) (by simp) ?_
        simp only [pickM]
        refine steady_go (a' := ?_) (by kernel_rfl) ?_ (fun w' hw' K Q hK => ?_) ?_
        rotate_left 2
        · go_wp2_with fail; exact hK _ (Mod.refl _ _)
        rotate_left
        · rfl
        refine steady_go (a' := ?_) (by kernel_rfl) ?_ (fun w' hw' K Q hK => ?_) ?_
        rotate_left 2
        · go_wp2_with fail; exact hK _ (Mod.refl _ _)
        rotate_left
        · rfl
        refine steady_go (a' := ?_) (by kernel_rfl) ?_ (fun w' hw' K Q hK => ?_) ?_
        rotate_left 2
        · go_wp2_with fail; exact hK _ (Mod.refl _ _)
        rotate_left
        · rfl
        refine steady_go (a' := ?_) (by kernel_rfl) ?_ (fun w' hw' K Q hK => ?_) ?_
        rotate_left 2
        · go_wp2_with fail; exact hK _ (Mod.refl _ _)
        rotate_left
        · rfl
        refine steady_go (a' := ?_) (by kernel_rfl) ?_ (fun w' hw' K Q hK => ?_) ?_
        rotate_left 2
        · go_wp2_with fail; exact hK _ (Mod.refl _ _)
        rotate_left
        · rfl
        refine steady_pass (by kernel_rfl) (by kernel_rfl) ?_
        refine steady_pass (by kernel_rfl) (by kernel_rfl) ?_
        refine steady_pass (by kernel_rfl) (by kernel_rfl) ?_
        refine steady_pass (by kernel_rfl) (by kernel_rfl) ?_
        refine steady_pass (by kernel_rfl) (by kernel_rfl) ?_
        refine steady_pass (by kernel_rfl) (by kernel_rfl) ?_
        refine steady_pass (by kernel_rfl) (by kernel_rfl) ?_
        refine steady_pass (by kernel_rfl) (by kernel_rfl) ?_
        refine steady_pass (by kernel_rfl) (by kernel_rfl) ?_
        refine steady_pass (by kernel_rfl) (by kernel_rfl) ?_
        refine steady_pass (by kernel_rfl) (by kernel_rfl) ?_
        refine steady_pass (by kernel_rfl) (by kernel_rfl) ?_
        refine steady_pass (by kernel_rfl) (by kernel_rfl) ?_
        refine steady_pass (by kernel_rfl) (by kernel_rfl) ?_
        refine steady_go (a' := ?_) (by kernel_rfl) ?_ (fun w' hw' K Q hK => ?_) ?_
        rotate_left 2
        · go_wp2_with fail; exact hK _ (Mod.refl _ _)
        rotate_left
        · rfl
        refine steady_go (a' := ?_) (by kernel_rfl) ?_ (fun w' hw' K Q hK => ?_) ?_
        rotate_left 2
        · go_wp2_with fail; exact hK _ (Mod.refl _ _)
        rotate_left
        · rfl
        refine steady_go (a' := ?_) (by kernel_rfl) ?_ (fun w' hw' K Q hK => ?_) ?_
        rotate_left 2
        · go_wp2_with fail; exact hK _ (Mod.refl _ _)
        rotate_left
        · rfl
        refine steady_done ?_
        refine lates_end (fun w' hw' _ => ?_)
        simp only [List.drop_succ_cons, List.drop_zero]
        go_wp2_with fail
        go_ret
        exact ⟨rfl, (HM7.out.then hw').to_below⟩
end Go.Proofs.YtjgklacbelggdaaGreatDoor

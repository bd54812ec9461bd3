/- A byte, where Unpack reads. Printed out of XCodStep and XCodCode by gen_codu.py. -/
import Derived.Test.YtjgklacbelggdaaGreatDoorCodStepU
namespace Go.Proofs.YtjgklacbelggdaaGreatDoor
open Go.RowKit
set_option linter.unusedVariables false

set_option maxRecDepth 4000 in
set_option maxHeartbeats 4000000 in
theorem codeU_any (W : World) (ml : List Nat) (cb fb qb rb : Nat) (S : ByteArray) (c : Cod.C) (hc : Cod.Wf c) (s : Cod.R) (a x : Nat) (ha : a < 256) (hx : x < 256) (w : World) (h : Cod.StU W ml cb fb qb rb S c s w) :
    Calls Tryz.prog 20 #[.pointer (some ⟨cb, 0, none⟩), .int .u8 a, .int .u8 x] w fun e w' => e = .returned (.int .u8 ((Cod.code Cod.up c s a x).1 % 256 : Nat)) ∧ Cod.StU W ml cb fb qb rb S (Cod.code Cod.up c s a x).2.1 (Cod.code Cod.up c s a x).2.2 w' := by
  have H := Lib.hid h
  have HF : Hid (Cod.bits Cod.up (a / 32 * 256) x 8 1 c s = Cod.code Cod.up c s a x) := rfl
  have HC := Lib.hid hc
  have a1 : (a : Int) / 32 % 256 = ((a / 32 : Nat) : Int) := by omega
  have a2 : (a : Int) / 32 = ((a / 32 : Nat) : Int) := by omega
  have a3 : a / 32 < 8 := by omega
  have A3 := Lib.hid a3
  clear hc h
  generalize Cod.code Cod.up c s a x = fin at *
  generalize a / 32 = a' at *
  go_enter Tryz.func20, Tryz.ntmps20
  go_wp2_with fail
  go_loopg [8, 9] 8 (fun gk i8 i9 wr => ∃ (c' : Cod.C) (s' : Cod.R) (nd : Nat), i8 = .int .i64 (nd : Int) ∧ i9 = .int .i64 ((gk : Int) - 1) ∧ Hid (gk ≤ 8 ∧ nd < 2 ^ (9 - gk)) ∧ Hid (Cod.StU W ml cb fb qb rb S c' s' wr) ∧ Hid (Cod.Wf c') ∧ Hid (Cod.bits Cod.up (a' * 256) x gk nd c' s' = fin))
  case atStart => exact ⟨c, s, 1, rfl, rfl, ⟨by omega, by omega⟩, H, HC, HF⟩
  case round =>
    obtain ⟨c', s', nd, rfl, rfl, hnd, HS, HW, HB⟩ := hrel
    clear H HF HC a1 a2
    by_cases hg : gk = 0
    · subst hg
      have hfin : fin = (nd, c', s') := HB.out.symm
      have e1 : ((0 : Nat) : Int) - 1 = -1 := rfl
      rw [e1]
      subst hfin
      have hn9 : nd < 512 := by have := hnd.out.2; exact this
      have e2 : (nd : Int) % 256 = ((nd % 256 : Nat) : Int) := by omega
      clear HB HW hnd
      show Code.wp _ _ _ _ _
      generalize nd % 256 = nm at *
      go_wp2_with fail
      go_ret
      exact ⟨rfl, HS.out⟩
    · obtain ⟨g, rfl⟩ : ∃ g, gk = g + 1 := ⟨gk - 1, by omega⟩
      have hg8 : g < 8 := by have := hnd.out.1; omega
      have hnd' : nd < 2 ^ (8 - g) := by have := hnd.out.2; rwa [show 9 - (g + 1) = 8 - g by omega] at this
      have hn9 : nd < 256 := Nat.lt_of_lt_of_le hnd' (Nat.pow_le_pow_right (n := 2) (by omega) (show 8 - g ≤ 8 by omega))
      have e1 : ((g + 1 : Nat) : Int) - 1 = (g : Int) := by omega
      have e2 : (0 : Int) ≤ (g : Int) := by omega
      rw [e1]
      have e3 : (nd : Int) < 256 := by omega
      have e4 : (x : Int) / 2 ^ min g 8 = ((x / 2 ^ g : Nat) : Int) := by rw [Nat.min_eq_left (by omega), Int.natCast_ediv]; simp
      have hwd : x / 2 ^ g % 2 < 2 := by omega
      have hxg : x / 2 ^ g < 256 := Nat.lt_of_le_of_lt (Nat.div_le_self _ _) hx
      have e5 : Go.bits .and .u8 ((x / 2 ^ g : Nat) : Int) 1 = ((x / 2 ^ g % 2 : Nat) : Int) := by
        have := u8_and_nat (x / 2 ^ g) 1 hxg (by omega)
        rw [Nat.and_one_is_mod] at this
        exact this
      have hwo : Cod.stepB Cod.up c' s' (a' * 256 + nd) (x / 2 ^ g % 2) < 2 := by
        show (if s'.found ≤ Cod.mid c' (a' * 256 + nd) then 1 else 0) < 2
        split <;> omega
      have EO : Hid (Go.bits .or .i64 ((nd : Int) * 2) ((Cod.stepB Cod.up c' s' (a' * 256 + nd) (x / 2 ^ g % 2) : Nat) : Int) = ((2 * nd + Cod.stepB Cod.up c' s' (a' * 256 + nd) (x / 2 ^ g % 2) : Nat) : Int)) := Cod.or_bit hn9 hwo
      have HST := Lib.hid (stepU_any W ml cb fb qb rb S c' HW.out s' (a' * 256 + nd) (by have := A3.out; omega) (x / 2 ^ g % 2))
      have hbits : fin = Cod.bits Cod.up (a' * 256) x g (2 * nd + Cod.stepB Cod.up c' s' (a' * 256 + nd) (x / 2 ^ g % 2)) (Cod.step Cod.up c' s' (a' * 256 + nd) (x / 2 ^ g % 2)).1 (Cod.step Cod.up c' s' (a' * 256 + nd) (x / 2 ^ g % 2)).2 := HB.out.symm
      have HB2 := Lib.hid hbits
      have HG := Lib.hid hg8
      have HN := Lib.hid hnd'
      clear hnd HB hg hbits hg8 hnd'
      have HWO := Lib.hid hwo
      clear hwo
      generalize hwq : x / 2 ^ g % 2 = wd at *
      clear hwq
      generalize hwq : Cod.stepB Cod.up c' s' (a' * 256 + nd) wd = wo at *
      clear hwq
      generalize x / 2 ^ g = xg at *
      go_wp2_with fail
      refine Rg.wp_region_rr (I := fun _ => True) (F0 := Cod.StU W ml cb fb qb rb S c' s') Rg.any_stays 15 [true, true, true, true, true, true, true, true, true, true, true, false, false, false, false] [(11, Rg.Know (Cod.StU W ml cb fb qb rb S (Cod.step Cod.up c' s' (a' * 256 + nd) wd).1 (Cod.step Cod.up c' s' (a' * 256 + nd) wd).2) (.int .u8 wo)), (12, Rg.Know (Cod.StU W ml cb fb qb rb S (Cod.step Cod.up c' s' (a' * 256 + nd) wd).1 (Cod.step Cod.up c' s' (a' * 256 + nd) wd).2) (.int .i64 wo)), (13, Rg.Know (Cod.StU W ml cb fb qb rb S (Cod.step Cod.up c' s' (a' * 256 + nd) wd).1 (Cod.step Cod.up c' s' (a' * 256 + nd) wd).2) (.int .i64 (2 * nd + wo : Nat))), (14, Rg.Know (Cod.StU W ml cb fb qb rb S (Cod.step Cod.up c' s' (a' * 256 + nd) wd).1 (Cod.step Cod.up c' s' (a' * 256 + nd) wd).2) (.int .i64 (2 * nd + wo : Nat)))] (by kernel_rfl) (by kernel_rfl) ?_ trivial (fun _ _ h m => h.stays m) (HS.out.stays (Mod.refl _ _).drew) ?_
      · intro p hp v
        simp only [List.mem_cons, List.not_mem_nil, or_false] at hp
        rcases hp with rfl | rfl | rfl | rfl
        · exact Rg.know_stays (fun _ _ h m => h.stays m) _ _
        · exact Rg.know_stays (fun _ _ h m => h.stays m) _ _
        · exact Rg.know_stays (fun _ _ h m => h.stays m) _ _
        · exact Rg.know_stays (fun _ _ h m => h.stays m) _ _
      simp only [pickM]
      refine Rg.steady_go (w0 := wr.drew) trivial (a' := ?_) (by kernel_rfl) ?_ (fun w' hw' K Q hK => ?_) ?_
      rotate_left 2
      · go_wp2_with fail; exact hK _ (Mod.refl _ _)
      rotate_left
      · rfl
      refine Rg.steady_go (w0 := wr.drew) trivial (a' := ?_) (by kernel_rfl) ?_ (fun w' hw' K Q hK => ?_) ?_
      rotate_left 2
      · go_wp2_with fail; exact hK _ (Mod.refl _ _)
      rotate_left
      · rfl
      refine Rg.steady_go (w0 := wr.drew) trivial (a' := ?_) (by kernel_rfl) ?_ (fun w' hw' K Q hK => ?_) ?_
      rotate_left 2
      · go_wp2_with fail; exact hK _ (Mod.refl _ _)
      rotate_left
      · rfl
      refine Rg.steady_go (w0 := wr.drew) trivial (a' := ?_) (by kernel_rfl) ?_ (fun w' hw' K Q hK => ?_) ?_
      rotate_left 2
      · go_wp2_with fail; exact hK _ (Mod.refl _ _)
      rotate_left
      · rfl
      refine Rg.steady_go (w0 := wr.drew) trivial (a' := ?_) (by kernel_rfl) ?_ (fun w' hw' K Q hK => ?_) ?_
      rotate_left 2
      · go_wp2_with fail; exact hK _ (Mod.refl _ _)
      rotate_left
      · rfl
      refine Rg.steady_go (w0 := wr.drew) trivial (a' := ?_) (by kernel_rfl) ?_ (fun w' hw' K Q hK => ?_) ?_
      rotate_left 2
      · go_wp2_with fail; exact hK _ (Mod.refl _ _)
      rotate_left
      · rfl
      refine Rg.steady_go (w0 := wr.drew) trivial (a' := ?_) (by kernel_rfl) ?_ (fun w' hw' K Q hK => ?_) ?_
      rotate_left 2
      · go_wp2_with fail; exact hK _ (Mod.refl _ _)
      rotate_left
      · rfl
      refine Rg.steady_go (w0 := wr.drew) trivial (a' := ?_) (by kernel_rfl) ?_ (fun w' hw' K Q hK => ?_) ?_
      rotate_left 2
      · go_wp2_with fail; exact hK _ (Mod.refl _ _)
      rotate_left
      · rfl
      refine Rg.steady_go (w0 := wr.drew) trivial (a' := ?_) (by kernel_rfl) ?_ (fun w' hw' K Q hK => ?_) ?_
      rotate_left 2
      · go_wp2_with fail; exact hK _ (Mod.refl _ _)
      rotate_left
      · rfl
      refine Rg.steady_go (w0 := wr.drew) trivial (a' := ?_) (by kernel_rfl) ?_ (fun w' hw' K Q hK => ?_) ?_
      rotate_left 2
      · go_wp2_with fail; exact hK _ (Mod.refl _ _)
      rotate_left
      · rfl
      refine Rg.steady_go (w0 := wr.drew) trivial (a' := ?_) (by kernel_rfl) ?_ (fun w' hw' K Q hK => ?_) ?_
      rotate_left 2
      · go_wp2_with fail; exact hK _ (Mod.refl _ _)
      rotate_left
      · rfl
      refine Rg.steady_done ?_
      refine Rg.chain_go (f := ?_) rfl rfl (fun v => by simp only [Act.put]; (try simp only [List.setIfInBounds_toArray]); (try simp only [List.set_cons_succ, List.set_cons_zero]); exact rfl) (fun w' hw' hF K Q hK => ?_) (fun k1 => ?_)
      · go_wp2_with fail
        have hs := HST.out w' hF
        rw [← Nat.add_assoc 2 (a' * 256) nd] at hs
        refine hs.mono ?_
        rintro e w2 ⟨rfl, hS⟩
        go_wp2_with fail
        exact hK _ _ trivial ⟨rfl, hS⟩
      refine Rg.chain_go (f := ?_) rfl rfl (fun v => by simp only [Act.put]; (try simp only [List.setIfInBounds_toArray]); (try simp only [List.set_cons_succ, List.set_cons_zero]); exact rfl) (fun w' hw' hF K Q hK => ?_) (fun k2 => ?_)
      · obtain ⟨rfl, hS⟩ := hF
        have hwo := HWO.out
        go_wp2_with fail
        exact hK _ _ trivial ⟨rfl, hS⟩
      refine Rg.chain_go (f := ?_) rfl rfl (fun v => by simp only [Act.put]; (try simp only [List.setIfInBounds_toArray]); (try simp only [List.set_cons_succ, List.set_cons_zero]); exact rfl) (fun w' hw' hF K Q hK => ?_) (fun k3 => ?_)
      · obtain ⟨rfl, hS⟩ := hF
        go_wp2_with fail
        rw [EO.out]
        exact hK _ _ trivial ⟨rfl, hS⟩
      refine Rg.chain_go (f := ?_) rfl rfl (fun v => by simp only [Act.put]; (try simp only [List.setIfInBounds_toArray]); (try simp only [List.set_cons_succ, List.set_cons_zero]); exact rfl) (fun w' hw' hF K Q hK => ?_) (fun k4 => ?_)
      · obtain ⟨rfl, hS⟩ := hF
        go_wp2_with fail
        exact hK _ _ trivial ⟨rfl, hS⟩
      refine Rg.chain_end (fun w' _ hF => ?_)
      obtain ⟨rfl, hS⟩ := hF
      have e7 : (g : Int) < 8 := by have := HG.out; omega
      simp only [List.drop_succ_cons, List.drop_zero]
      go_wp2_with fail
      go_roundg g
      case measure => omega
      case rel =>
        refine ⟨(Cod.step Cod.up c' s' (a' * 256 + nd) wd).1, (Cod.step Cod.up c' s' (a' * 256 + nd) wd).2, 2 * nd + wo, by rw [Int.natCast_add, Int.natCast_mul]; rfl, rfl, ⟨by have := HG.out; omega, ?_⟩, hS, Cod.step_wf _ HW.out _ _ _, HB2.out.symm⟩
        · have h1 := HN.out
          have h2 := HG.out
          have h3 := HWO.out
          rw [show 9 - g = (8 - g) + 1 by omega, Nat.pow_succ]
          omega
end Go.Proofs.YtjgklacbelggdaaGreatDoor

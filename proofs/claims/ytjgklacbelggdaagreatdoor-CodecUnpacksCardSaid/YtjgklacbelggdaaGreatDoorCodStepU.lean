/- A bit, where Unpack reads. -/
import Derived.Test.YtjgklacbelggdaaGreatDoorCodStU
import Derived.Test.YtjgklacbelggdaaGreatDoorCodCode
namespace Go.Proofs.YtjgklacbelggdaaGreatDoor
open Go.RowKit
set_option linter.unusedVariables false

set_option maxHeartbeats 4000000 in
theorem stepU_any (W : World) (ml : List Nat) (cb fb qb rb : Nat) (S : ByteArray) (c : Cod.C) (hc : Cod.Wf c) (s : Cod.R) (k : Nat) (hk : k < 2048) (x : Nat) (w : World) (h : Cod.StU W ml cb fb qb rb S c s w) :
    Calls Tryz.prog 31 #[.pointer (some ⟨cb, 0, none⟩), .pointer (some ⟨cb, 2 + k, none⟩), .int .u8 x] w fun e w' => e = .returned (.int .u8 (Cod.stepB Cod.up c s k x : Nat)) ∧ Cod.StU W ml cb fb qb rb S (Cod.step Cod.up c s k x).1 (Cod.step Cod.up c s k x).2 w' := by
  have HC := Lib.hid hc
  have H := Lib.hid h
  have HBit := Lib.hid (fun n => bitU_any (Cod.mid c k) x fb s.found (w.drewN n) (h.stays ((Mod.refl _ _).drewN n)).fnd)
  have hwd : Cod.stepB Cod.up c s k x < 2 := by
    show (if s.found ≤ Cod.mid c k then 1 else 0) < 2
    split <;> omega
  have HBit : Hid (∀ n, Calls Tryz.prog 35 #[.int .u32 (Cod.mid c k), .int .u8 x, .pointer (some ⟨fb, 0, none⟩)] (w.drewN n) fun e w' => e = .returned (.int .u8 (Cod.stepB Cod.up c s k x : Nat)) ∧ w.drewN n = w') := HBit.out
  have HF : Hid (Cod.norm Cod.up 4 (Cod.turn c k (Cod.stepB Cod.up c s k x)) s = Cod.step Cod.up c s k x) := rfl
  generalize Cod.stepB Cod.up c s k x = wd at *
  have c0 : w.cell? ⟨cb, 0, none⟩ = some (.int .u32 c.low) := (h.blk.cell 0).trans (cc_lo ..)
  have c1 : w.cell? ⟨cb, 1, none⟩ = some (.int .u32 c.high) := (h.blk.cell 1).trans (cc_hi ..)
  have ck : w.cell? ⟨cb, 2 + k, none⟩ = some (.int .u32 (c.ch k)) := (h.blk.cell (2 + k)).trans (cc_ch _ _ _ _ _ k hk)
  have cbt : w.cell? ⟨cb, 2050, none⟩ = some (Cod.vbU fb) := (h.blk.cell 2050).trans (cc_bit ..)
  have z0 : w.frozen? ⟨cb, 0, none⟩ = false := h.blk.frozen 0
  have z1 : w.frozen? ⟨cb, 1, none⟩ = false := h.blk.frozen 1
  have zk : w.frozen? ⟨cb, 2 + k, none⟩ = false := h.blk.frozen _
  obtain ⟨e1, e2, e3, e4, e5, e6, e7, e8, e9, e10, e11⟩ := Cod.nums hc k
  have hn : ∀ n, Cod.StU W ml cb fb qb rb S c s (w.drewN n) := fun n => h.stays ((Mod.refl _ _).drewN n)
  have H1 : Hid (∀ n, Cod.StU W ml cb fb qb rb S (Cod.turn c k 1) s (((w.drewN n).setCell ⟨cb, 1, none⟩ (.int .u32 (Cod.mid c k))).setCell ⟨cb, 2 + k, none⟩ (.int .u32 ((c.ch k + (4096 - c.ch k) / 32 : Nat) : Int)))) := fun n => by
    have q1 := (hn n).put (c' := ⟨c.low, Cod.mid c k, c.ch⟩) 1 (.int .u32 (Cod.mid c k)) (cc_set_hi ..)
    exact q1.put (c' := Cod.turn c k 1) (2 + k) _ (cc_set_ch _ _ _ _ _ k _ hk)
  have H0 : Hid (∀ n, Cod.StU W ml cb fb qb rb S (Cod.turn c k 0) s (((w.drewN n).setCell ⟨cb, 0, none⟩ (.int .u32 ((Cod.mid c k + 1 : Nat) : Int))).setCell ⟨cb, 2 + k, none⟩ (.int .u32 ((c.ch k - c.ch k / 32 : Nat) : Int)))) := fun n => by
    have q1 := (hn n).put (c' := ⟨Cod.mid c k + 1, c.high, c.ch⟩) 0 (.int .u32 ((Cod.mid c k + 1 : Nat) : Int)) (cc_set_lo ..)
    exact q1.put (c' := Cod.turn c k 0) (2 + k) _ (cc_set_ch _ _ _ _ _ k _ hk)
  have HW : Hid (Cod.Q 0 (Cod.turn c k wd)) := Cod.Q.zero (Cod.turn_wk hc k wd)
  clear hn
  clear hc hk h
  generalize c.high - c.low = R at *
  generalize R / 4096 * c.ch k = q at *
  generalize 4096 - c.ch k = d at *
  generalize d / 32 = d2 at *
  generalize c.ch k / 32 = y2 at *
  generalize c.ch k + d2 = p1 at *
  generalize c.ch k - y2 = p0 at *
  generalize Cod.mid c k + 1 = m1 at *
  generalize Cod.mid c k = m at *
  generalize c.low = lo at *
  generalize c.high = hi at *
  generalize c.ch k = p at *
  generalize Cod.step Cod.up c s k x = fin at *
  have HD : wd = 0 ∨ wd = 1 := by omega
  clear hwd
  rcases HD with rfl | rfl
  all_goals
    first | rw [show ((0 : Nat) : Int) = 0 from rfl] | rw [show ((1 : Nat) : Int) = 1 from rfl]
    go_enter Tryz.func31, Tryz.ntmps31
    go_wp2_with fail
    go_quiet (fail)
    go_wp2_with fail
    refine (HBit.out _).mono ?_
    rintro e w' ⟨rfl, rfl⟩
    go_wp2_with fail
    clear c0 c1 ck cbt z0 z1 zk
    go_loopg [] 4 (fun gk wr => ∃ (c' : Cod.C) (s' : Cod.R) (i : Nat), Hid (i + gk = 4) ∧ Hid (Cod.StU W ml cb fb qb rb S c' s' wr) ∧ Hid (Cod.Q i c') ∧ Hid (Cod.norm Cod.up gk c' s' = fin))
    case atStart => first | exact ⟨_, _, 0, rfl, H0.out _, HW.out, HF.out⟩ | exact ⟨_, _, 0, rfl, H1.out _, HW.out, HF.out⟩
    case round =>
      obtain ⟨c', s', i, hi, HS', HQ, HF'⟩ := hrel
      clear H0 H1 HW HF e1 e2 e3 e4 e5 e6 e7 e8 e9 e10 e11 H HC
      have b := HS'.out.blk
      have a0 : wr.cell? ⟨cb, 0, none⟩ = some (.int .u32 c'.low) := (b.cell 0).trans (cc_lo ..)
      have a1 : wr.cell? ⟨cb, 1, none⟩ = some (.int .u32 c'.high) := (b.cell 1).trans (cc_hi ..)
      have ad : wr.cell? ⟨cb, 2051, none⟩ = some (Cod.vdU fb qb) := (b.cell 2051).trans (cc_done ..)
      clear b
      by_cases hs : Cod.same c' = true
      · have t1 : ((c'.low : Int) / 16777216 == (c'.high : Int) / 16777216) = true := by
          simp only [Cod.same, decide_eq_true_eq] at hs
          rw [beq_iff_eq]; omega
        have ht : c'.low / 16777216 < 256 := by have h1 := HQ.out.wk.le; have h2 := HQ.out.wk.hi; omega
        have t2 : (c'.low : Int) / 16777216 % 256 = ((c'.low / 16777216 : Nat) : Int) := by omega
        have HT := Lib.hid ht
        have HSame := Lib.hid hs
        clear hs ht
        go_wp2_with fail
        go_quiet (fail)
        go_wp2_with fail
        have HQ' := Lib.hid (HS'.out.stays ((Mod.refl _ _).drewN nq))
        clear HS' a0 a1 ad t1
        generalize wr.drewN nq = wq at *
        have b := HQ'.out.blk
        have A0 : ∀ W', Mod [] wq W' → W'.cell? ⟨cb, 0, none⟩ = some (.int .u32 c'.low) := fun W' m => ((b.kept m (by simp)).cell 0).trans (cc_lo ..)
        have AD : ∀ W', Mod [] wq W' → W'.cell? ⟨cb, 2051, none⟩ = some (Cod.vdU fb qb) := fun W' m => ((b.kept m (by simp)).cell 2051).trans (cc_done ..)
        clear b
        have hgk : gk ≠ 0 := by
          rintro rfl
          have h4 : i = 4 := hi.out
          have h5 := HQ.out
          rw [h4] at h5
          have h6 := h5.four
          rw [HSame.out] at h6
          cases h6
        have HG := Lib.hid hgk
        clear hgk
        refine wp_region_mask 10 [true, true, true, true, true, true, true, true, true, true] [] (by kernel_rfl) (by kernel_rfl) (by simp) ?_
        simp only [pickM]
        refine steady_go (a' := ?_) (by kernel_rfl) ?_ (fun w' hw' K Q hK => ?_) ?_
        rotate_left 2
        · go_wp2_with fail; exact hK _ (Mod.refl _ _)
        rotate_left
        · rfl
        refine steady_go (a' := ?_) (by kernel_rfl) ?_ (fun w' hw' K Q hK => ?_) ?_
        rotate_left 2
        · go_wp2_with fail; exact hK _ (Mod.refl _ _)
        rotate_left
        · rfl
        refine steady_go (a' := ?_) (by kernel_rfl) ?_ (fun w' hw' K Q hK => ?_) ?_
        rotate_left 2
        · go_wp2_with fail; exact hK _ (Mod.refl _ _)
        rotate_left
        · rfl
        refine steady_go (a' := ?_) (by kernel_rfl) ?_ (fun w' hw' K Q hK => ?_) ?_
        rotate_left 2
        · go_wp2_with fail; exact hK _ (Mod.refl _ _)
        rotate_left
        · rfl
        refine steady_go (a' := ?_) (by kernel_rfl) ?_ (fun w' hw' K Q hK => ?_) ?_
        rotate_left 2
        · go_wp2_with fail; exact hK _ (Mod.refl _ _)
        rotate_left
        · rfl
        refine steady_go (a' := ?_) (by kernel_rfl) ?_ (fun w' hw' K Q hK => ?_) ?_
        rotate_left 2
        · go_wp2_with fail; exact hK _ (Mod.refl _ _)
        rotate_left
        · rfl
        refine steady_go (a' := ?_) (by kernel_rfl) ?_ (fun w' hw' K Q hK => ?_) ?_
        rotate_left 2
        · go_wp2_with fail; exact hK _ (Mod.refl _ _)
        rotate_left
        · rfl
        refine steady_go (a' := ?_) (by kernel_rfl) ?_ (fun w' hw' K Q hK => ?_) ?_
        rotate_left 2
        · go_wp2_with fail; exact hK _ (Mod.refl _ _)
        rotate_left
        · rfl
        refine steady_go (a' := ?_) (by kernel_rfl) ?_ (fun w' hw' K Q hK => ?_) ?_
        rotate_left 2
        · go_wp2_with fail; exact hK _ (Mod.refl _ _)
        rotate_left
        · rfl
        refine steady_go (a' := ?_) (by kernel_rfl) ?_ (fun w' hw' K Q hK => ?_) ?_
        rotate_left 2
        · go_wp2_with fail; exact hK _ (Mod.refl _ _)
        rotate_left
        · rfl
        refine steady_done ?_
        refine lates_end (fun w' hw' _ => ?_)
        simp only [List.drop_succ_cons, List.drop_zero]
        go_wp2_with fail
        refine (doneU_any W ml cb fb qb rb S c' s' _ _ (HQ'.out.stays hw')).mono ?_
        rintro e w2 ⟨rfl, HS2⟩
        clear A0 AD t2 HQ' hw'
        have b := HS2.blk
        have a0 : w2.cell? ⟨cb, 0, none⟩ = some (.int .u32 c'.low) := (b.cell 0).trans (cc_lo ..)
        have a1 : w2.cell? ⟨cb, 1, none⟩ = some (.int .u32 c'.high) := (b.cell 1).trans (cc_hi ..)
        have z0 : w2.frozen? ⟨cb, 0, none⟩ = false := b.frozen 0
        have z1 : w2.frozen? ⟨cb, 1, none⟩ = false := b.frozen 1
        have HS3 := Lib.hid HS2
        clear b HS2
        obtain ⟨x, t3, t4, t5⟩ : ∃ x : Nat, (c'.low : Int) * 256 % 4294967296 = ((Cod.shift c').low : Int) ∧ (c'.high : Int) * 256 % 4294967296 = (x : Int) ∧ Go.bits .or .u32 (x : Int) 255 = ((Cod.shift c').high : Int) := ⟨_, Cod.nums2 HQ.out.wk⟩
        have HP := Lib.hid ((HS3.out.put (c' := ⟨(Cod.shift c').low, c'.high, c'.ch⟩) 0 (.int .u32 (Cod.shift c').low) (cc_set_lo ..)).put (c' := Cod.shift c') 1 (.int .u32 (Cod.shift c').high) (cc_set_hi ..))
        go_wp2_with fail
        go_roundg (gk - 1)
        case measure => have := HG.out; omega
        case rel =>
          refine ⟨Cod.shift c', ⟨s'.found * 256 % 4294967296 + Cod.got s', (Cod.adv s').rest, (Cod.adv s').failed⟩, i + 1, ?_, HP.out, ?_, ?_⟩
          · have h1 := hi.out; have h2 := HG.out; show i + 1 + (gk - 1) = 4; omega
          · exact HQ.out.shift (by have h1 := hi.out; have h2 := HG.out; omega) HSame.out
          · have h1 := HF'.out
            obtain ⟨g, rfl⟩ : ∃ g, gk = g + 1 := ⟨gk - 1, by have := HG.out; omega⟩
            unfold Cod.norm at h1
            rw [if_pos HSame.out, Cod.up_done] at h1
            exact h1
      · have hs' : Cod.same c' = false := by simpa using hs
        have t1 : ((c'.low : Int) / 16777216 == (c'.high : Int) / 16777216) = false := by
          simp only [Cod.same, decide_eq_true_eq] at hs
          rw [beq_eq_false_iff_ne]; omega
        have hfin : fin = (c', s') := by rw [← HF'.out]; exact Cod.norm_same _ hs' gk
        subst hfin
        clear hs hs' HF'
        go_wp2_with fail
        go_quiet (fail)
        go_wp2_with fail
        go_ret
        exact ⟨rfl, HS'.out.stays ((Mod.refl _ _).drewN _)⟩
end Go.Proofs.YtjgklacbelggdaaGreatDoor

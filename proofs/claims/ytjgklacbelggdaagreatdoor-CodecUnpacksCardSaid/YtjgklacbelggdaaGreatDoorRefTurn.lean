/- The document's coder: what becomes of it by a bit. -/
import Derived.Test.YtjgklacbelggdaaGreatDoorRefCod
namespace Go.Proofs.YtjgklacbelggdaaGreatDoor
open Go.RowKit
set_option linter.unusedVariables false

theorem Cod.StR.cells' {W : World} {cb hb : Nat} {c : Cod.C} {w : World} (h : Cod.StR W cb hb c w) (k : Nat) (hk : k < 2048) : ∀ W', Mod [] w W' → W'.cell? ⟨cb, 0, none⟩ = some (.slice (some ⟨hb, 0, none⟩) 2048 2048) ∧ W'.cell? ⟨cb, 1, none⟩ = some (.int .i64 c.low) ∧ W'.cell? ⟨cb, 2, none⟩ = some (.int .i64 c.high) ∧ W'.cell? ⟨hb, k, none⟩ = some (.int .i64 (c.ch k)) :=
  fun W' m => (h.stays m).cells k hk

theorem Mod.grownL {l : List Nat} {w a b : World} {row : Option Nat} (h : Mod l w a) (g : a.grownBy b row) (hr : ∀ k, row = some k → w.heap.size ≤ k) : Mod l w b :=
  ⟨g.os.trans h.os, g.tape.trans h.tape, g.output.trans h.output, Nat.le_trans h.size g.size, fun k hk hn => by
    rw [g.block k (Nat.lt_of_lt_of_le hk h.size) (fun e => absurd (hr k e.symm) (Nat.not_le.2 hk)), h.block k hk hn]⟩
theorem Cod.StR.grown {W : World} {cb hb : Nat} {c : Cod.C} {w w1 : World} {v : Value} {l : List UInt8} (h : Cod.StR W cb hb c w) (hr : RowM w W.heap.size v l) (g : w.grownBy w1 v.ownBlock) : Cod.StR W cb hb c w1 :=
  ⟨h.mod.grownL g fun k hk => (hr.lt k hk).1, h.blk.grownR g (hr.ne h.blk (by decide)), h.chs.grownR g (hr.ne h.chs (by decide))⟩
theorem Cod.nrm_done {c : Cod.C} (h : Cod.same c = false) : ∀ f, Cod.nrm f c = ([], c)
  | 0 => rfl
  | f + 1 => by unfold Cod.nrm; rw [h]; rfl

set_option maxRecDepth 100000 in
set_option maxHeartbeats 4000000 in
theorem turn_any (cb hb : Nat) (c : Cod.C) (hc : Cod.Wf c) (k : Nat) (hk : k < 2048) (b : Nat) (hb2 : b < 2) (w : World) (h : Cod.StR w cb hb c w) :
    Calls Tryz.prog 23 #[.pointer (some ⟨cb, 0, none⟩), .int .i64 k, .int .i64 b] w fun e w' => ∃ a cap, e = .returned (.slice (some a) (Cod.nrm 4 (Cod.turn c k b)).1.length cap) ∧
      Cod.StR w cb hb (Cod.nrm 4 (Cod.turn c k b)).2 w' ∧ RowM w' w.heap.size (.slice (some a) (Cod.nrm 4 (Cod.turn c k b)).1.length cap) (Cod.nrm 4 (Cod.turn c k b)).1 := by
  obtain ⟨i0, hi, hz0, hz1, hz2⟩ := info_parts Tryz.info_u8
  have H := Lib.hid h
  have HC := Lib.hid hc
  obtain ⟨e1, e2, e3⟩ := Cod.numsR hc k
  have HD : b = 0 ∨ b = 1 := by omega
  have hk1 : (k : Int) < 2048 := by omega
  have T0 : Hid (Cod.turn c k 0 = ⟨Cod.mid c k + 1, c.high, Cod.upd c.ch k (c.ch k - c.ch k / 32)⟩) := rfl
  have T1 : Hid (Cod.turn c k 1 = ⟨c.low, Cod.mid c k, Cod.upd c.ch k (c.ch k + (4096 - c.ch k) / 32)⟩) := rfl
  have MID := Lib.hid (fun w' h' => middle_any w cb hb c hc k hk w' h')
  have HQ : Hid (∀ b, Cod.Q 0 (Cod.turn c k b)) := fun b => Cod.Q.zero (Cod.turn_wk hc k b)
  clear hb2
  obtain ⟨fl, fc, hfin⟩ : ∃ fl fc, Cod.nrm 4 (Cod.turn c k b) = (fl, fc) := ⟨_, _, rfl⟩
  rw [hfin]
  have HFIN := Lib.hid hfin
  clear hfin
  simp only
  generalize Cod.mid c k + 1 = m1 at *
  generalize c.ch k + (4096 - c.ch k) / 32 = p1 at *
  generalize c.ch k - c.ch k / 32 = p0 at *
  generalize Cod.mid c k = mm at *
  go_enter Tryz.func23, Tryz.ntmps23
  go_wp2_with fail
  refine (MID.out w h).mono ?_
  rintro e w1 ⟨rfl, hm1⟩
  have H1 := Lib.hid (h.stays hm1)
  clear h hm1 hc MID
  rcases HD with rfl | rfl
  case' inl =>
    rw [show ((0 : Nat) : Int) = 0 from rfl]
    obtain ⟨z1, z2, -⟩ := H1.out.free k
    obtain ⟨-, a1, a2, -⟩ := H1.out.cells k hk
    go_wp2_with fail
    have HX := Lib.hid (H1.out.setLow m1)
    clear z1 z2 a1 a2
    generalize w1.setCell ⟨cb, 1, none⟩ (.int .i64 (m1 : Int)) = w2 at *
    have A := HX.out.cells' k hk
    have A0 : ∀ W', Mod [] w2 W' → _ := fun W' m => (A W' m).1
    have A3 : ∀ W', Mod [] w2 W' → _ := fun W' m => (A W' m).2.2.2
    clear A
    refine wp_region_mask 22 [true, true, true, true, true, true, true, true, true, true, true, true, true, true, true, true, true, true, true, true, true, true] [] (by kernel_rfl) (by kernel_rfl) (by simp) ?_
    simp only [pickM]
    refine steady_go (a' := ?_) (by kernel_rfl) ?_ (fun w' hw' K Q hK => ?_) ?_
    rotate_left 2
    · go_wp2_with fail; exact hK _ (Mod.refl _ _)
    rotate_left
    · rfl
    refine steady_go (a' := ?_) (by kernel_rfl) ?_ (fun w' hw' K Q hK => ?_) ?_
    rotate_left 2
    · go_wp2_with fail; exact hK _ (Mod.refl _ _)
    rotate_left
    · rfl
    refine steady_go (a' := ?_) (by kernel_rfl) ?_ (fun w' hw' K Q hK => ?_) ?_
    rotate_left 2
    · go_wp2_with fail; exact hK _ (Mod.refl _ _)
    rotate_left
    · rfl
    refine steady_go (a' := ?_) (by kernel_rfl) ?_ (fun w' hw' K Q hK => ?_) ?_
    rotate_left 2
    · go_wp2_with fail; exact hK _ (Mod.refl _ _)
    rotate_left
    · rfl
    refine steady_go (a' := ?_) (by kernel_rfl) ?_ (fun w' hw' K Q hK => ?_) ?_
    rotate_left 2
    · go_wp2_with fail; exact hK _ (Mod.refl _ _)
    rotate_left
    · rfl
    refine steady_go (a' := ?_) (by kernel_rfl) ?_ (fun w' hw' K Q hK => ?_) ?_
    rotate_left 2
    · go_wp2_with fail; exact hK _ (Mod.refl _ _)
    rotate_left
    · rfl
    refine steady_go (a' := ?_) (by kernel_rfl) ?_ (fun w' hw' K Q hK => ?_) ?_
    rotate_left 2
    · go_wp2_with fail; exact hK _ (Mod.refl _ _)
    rotate_left
    · rfl
    refine steady_go (a' := ?_) (by kernel_rfl) ?_ (fun w' hw' K Q hK => ?_) ?_
    rotate_left 2
    · go_wp2_with fail; exact hK _ (Mod.refl _ _)
    rotate_left
    · rfl
    refine steady_go (a' := ?_) (by kernel_rfl) ?_ (fun w' hw' K Q hK => ?_) ?_
    rotate_left 2
    · go_wp2_with fail; exact hK _ (Mod.refl _ _)
    rotate_left
    · rfl
    refine steady_go (a' := ?_) (by kernel_rfl) ?_ (fun w' hw' K Q hK => ?_) ?_
    rotate_left 2
    · go_wp2_with fail; exact hK _ (Mod.refl _ _)
    rotate_left
    · rfl
    refine steady_go (a' := ?_) (by kernel_rfl) ?_ (fun w' hw' K Q hK => ?_) ?_
    rotate_left 2
    · go_wp2_with fail; exact hK _ (Mod.refl _ _)
    rotate_left
    · rfl
    refine steady_go (a' := ?_) (by kernel_rfl) ?_ (fun w' hw' K Q hK => ?_) ?_
    rotate_left 2
    · go_wp2_with fail; exact hK _ (Mod.refl _ _)
    rotate_left
    · rfl
    refine steady_go (a' := ?_) (by kernel_rfl) ?_ (fun w' hw' K Q hK => ?_) ?_
    rotate_left 2
    · go_wp2_with fail; exact hK _ (Mod.refl _ _)
    rotate_left
    · rfl
    refine steady_go (a' := ?_) (by kernel_rfl) ?_ (fun w' hw' K Q hK => ?_) ?_
    rotate_left 2
    · go_wp2_with fail; exact hK _ (Mod.refl _ _)
    rotate_left
    · rfl
    refine steady_go (a' := ?_) (by kernel_rfl) ?_ (fun w' hw' K Q hK => ?_) ?_
    rotate_left 2
    · go_wp2_with fail; exact hK _ (Mod.refl _ _)
    rotate_left
    · rfl
    refine steady_go (a' := ?_) (by kernel_rfl) ?_ (fun w' hw' K Q hK => ?_) ?_
    rotate_left 2
    · go_wp2_with fail; exact hK _ (Mod.refl _ _)
    rotate_left
    · rfl
    refine steady_go (a' := ?_) (by kernel_rfl) ?_ (fun w' hw' K Q hK => ?_) ?_
    rotate_left 2
    · go_wp2_with fail; exact hK _ (Mod.refl _ _)
    rotate_left
    · rfl
    refine steady_go (a' := ?_) (by kernel_rfl) ?_ (fun w' hw' K Q hK => ?_) ?_
    rotate_left 2
    · go_wp2_with fail; exact hK _ (Mod.refl _ _)
    rotate_left
    · rfl
    refine steady_go (a' := ?_) (by kernel_rfl) ?_ (fun w' hw' K Q hK => ?_) ?_
    rotate_left 2
    · go_wp2_with fail; exact hK _ (Mod.refl _ _)
    rotate_left
    · rfl
    refine steady_go (a' := ?_) (by kernel_rfl) ?_ (fun w' hw' K Q hK => ?_) ?_
    rotate_left 2
    · go_wp2_with fail; exact hK _ (Mod.refl _ _)
    rotate_left
    · rfl
    refine steady_go (a' := ?_) (by kernel_rfl) ?_ (fun w' hw' K Q hK => ?_) ?_
    rotate_left 2
    · go_wp2_with fail; exact hK _ (Mod.refl _ _)
    rotate_left
    · rfl
    refine steady_go (a' := ?_) (by kernel_rfl) ?_ (fun w' hw' K Q hK => ?_) ?_
    rotate_left 2
    · go_wp2_with fail; exact hK _ (Mod.refl _ _)
    rotate_left
    · rfl
    refine steady_done ?_
    refine lates_end (fun w' hw' _ => ?_)
    simp only [List.drop_succ_cons, List.drop_zero]
    have HY := Lib.hid (HX.out.stays hw')
    clear A0 A3 HX hw'
    obtain ⟨z1, z2, z3⟩ := HY.out.free k
    obtain ⟨-, -, -, a3⟩ := HY.out.cells k hk
    go_wp2_with fail
    have HZ := Lib.hid ((HY.out.setCh k p0).stays ((Mod.refl _ _).alloc (.cells #[] 5)))
    have hR := made_rowM (w'.setCell ⟨hb, k, none⟩ (.int .i64 p0)) w.heap.size 0 #[] rfl (by decide) (by rw [setCell_size]; exact HY.out.mod.size)
    rw [setCell_size] at hR
    have HR := Lib.hid hR
    clear hR
    have HQ0 := Lib.hid (HQ.out 0)
    have HF := HFIN.out
    rw [T0.out] at HQ0 HF
    replace HF := Lib.hid HF
    clear HFIN
    clear z1 z2 z3 a3 HY H1
    generalize w'.setCell ⟨hb, k, none⟩ (.int .i64 p0) = w3 at *
    generalize (⟨m1, c.high, Cod.upd c.ch k p0⟩ : Cod.C) = cs at *
  case' inr =>
    rw [show ((1 : Nat) : Int) = 1 from rfl]
    obtain ⟨z1, z2, -⟩ := H1.out.free k
    obtain ⟨-, a1, a2, -⟩ := H1.out.cells k hk
    go_wp2_with fail
    have HX := Lib.hid (H1.out.setHigh mm)
    clear z1 z2 a1 a2
    generalize w1.setCell ⟨cb, 2, none⟩ (.int .i64 mm) = w2 at *
    have A := HX.out.cells' k hk
    have A0 : ∀ W', Mod [] w2 W' → _ := fun W' m => (A W' m).1
    have A3 : ∀ W', Mod [] w2 W' → _ := fun W' m => (A W' m).2.2.2
    clear A
    refine wp_region_mask 23 [true, true, true, true, true, true, true, true, true, true, true, true, true, true, true, true, true, true, true, true, true, true, true] [] (by kernel_rfl) (by kernel_rfl) (by simp) ?_
    simp only [pickM]
    refine steady_go (a' := ?_) (by kernel_rfl) ?_ (fun w' hw' K Q hK => ?_) ?_
    rotate_left 2
    · go_wp2_with fail; exact hK _ (Mod.refl _ _)
    rotate_left
    · rfl
    refine steady_go (a' := ?_) (by kernel_rfl) ?_ (fun w' hw' K Q hK => ?_) ?_
    rotate_left 2
    · go_wp2_with fail; exact hK _ (Mod.refl _ _)
    rotate_left
    · rfl
    refine steady_go (a' := ?_) (by kernel_rfl) ?_ (fun w' hw' K Q hK => ?_) ?_
    rotate_left 2
    · go_wp2_with fail; exact hK _ (Mod.refl _ _)
    rotate_left
    · rfl
    refine steady_go (a' := ?_) (by kernel_rfl) ?_ (fun w' hw' K Q hK => ?_) ?_
    rotate_left 2
    · go_wp2_with fail; exact hK _ (Mod.refl _ _)
    rotate_left
    · rfl
    refine steady_go (a' := ?_) (by kernel_rfl) ?_ (fun w' hw' K Q hK => ?_) ?_
    rotate_left 2
    · go_wp2_with fail; exact hK _ (Mod.refl _ _)
    rotate_left
    · rfl
    refine steady_go (a' := ?_) (by kernel_rfl) ?_ (fun w' hw' K Q hK => ?_) ?_
    rotate_left 2
    · go_wp2_with fail; exact hK _ (Mod.refl _ _)
    rotate_left
    · rfl
    refine steady_go (a' := ?_) (by kernel_rfl) ?_ (fun w' hw' K Q hK => ?_) ?_
    rotate_left 2
    · go_wp2_with fail; exact hK _ (Mod.refl _ _)
    rotate_left
    · rfl
    refine steady_go (a' := ?_) (by kernel_rfl) ?_ (fun w' hw' K Q hK => ?_) ?_
    rotate_left 2
    · go_wp2_with fail; exact hK _ (Mod.refl _ _)
    rotate_left
    · rfl
    refine steady_go (a' := ?_) (by kernel_rfl) ?_ (fun w' hw' K Q hK => ?_) ?_
    rotate_left 2
    · go_wp2_with fail; exact hK _ (Mod.refl _ _)
    rotate_left
    · rfl
    refine steady_go (a' := ?_) (by kernel_rfl) ?_ (fun w' hw' K Q hK => ?_) ?_
    rotate_left 2
    · go_wp2_with fail; exact hK _ (Mod.refl _ _)
    rotate_left
    · rfl
    refine steady_go (a' := ?_) (by kernel_rfl) ?_ (fun w' hw' K Q hK => ?_) ?_
    rotate_left 2
    · go_wp2_with fail; exact hK _ (Mod.refl _ _)
    rotate_left
    · rfl
    refine steady_go (a' := ?_) (by kernel_rfl) ?_ (fun w' hw' K Q hK => ?_) ?_
    rotate_left 2
    · go_wp2_with fail; exact hK _ (Mod.refl _ _)
    rotate_left
    · rfl
    refine steady_go (a' := ?_) (by kernel_rfl) ?_ (fun w' hw' K Q hK => ?_) ?_
    rotate_left 2
    · go_wp2_with fail; exact hK _ (Mod.refl _ _)
    rotate_left
    · rfl
    refine steady_go (a' := ?_) (by kernel_rfl) ?_ (fun w' hw' K Q hK => ?_) ?_
    rotate_left 2
    · go_wp2_with fail; exact hK _ (Mod.refl _ _)
    rotate_left
    · rfl
    refine steady_go (a' := ?_) (by kernel_rfl) ?_ (fun w' hw' K Q hK => ?_) ?_
    rotate_left 2
    · go_wp2_with fail; exact hK _ (Mod.refl _ _)
    rotate_left
    · rfl
    refine steady_go (a' := ?_) (by kernel_rfl) ?_ (fun w' hw' K Q hK => ?_) ?_
    rotate_left 2
    · go_wp2_with fail; exact hK _ (Mod.refl _ _)
    rotate_left
    · rfl
    refine steady_go (a' := ?_) (by kernel_rfl) ?_ (fun w' hw' K Q hK => ?_) ?_
    rotate_left 2
    · go_wp2_with fail; exact hK _ (Mod.refl _ _)
    rotate_left
    · rfl
    refine steady_go (a' := ?_) (by kernel_rfl) ?_ (fun w' hw' K Q hK => ?_) ?_
    rotate_left 2
    · go_wp2_with fail; exact hK _ (Mod.refl _ _)
    rotate_left
    · rfl
    refine steady_go (a' := ?_) (by kernel_rfl) ?_ (fun w' hw' K Q hK => ?_) ?_
    rotate_left 2
    · go_wp2_with fail; exact hK _ (Mod.refl _ _)
    rotate_left
    · rfl
    refine steady_go (a' := ?_) (by kernel_rfl) ?_ (fun w' hw' K Q hK => ?_) ?_
    rotate_left 2
    · go_wp2_with fail; exact hK _ (Mod.refl _ _)
    rotate_left
    · rfl
    refine steady_go (a' := ?_) (by kernel_rfl) ?_ (fun w' hw' K Q hK => ?_) ?_
    rotate_left 2
    · go_wp2_with fail; exact hK _ (Mod.refl _ _)
    rotate_left
    · rfl
    refine steady_go (a' := ?_) (by kernel_rfl) ?_ (fun w' hw' K Q hK => ?_) ?_
    rotate_left 2
    · go_wp2_with fail; exact hK _ (Mod.refl _ _)
    rotate_left
    · rfl
    refine steady_go (a' := ?_) (by kernel_rfl) ?_ (fun w' hw' K Q hK => ?_) ?_
    rotate_left 2
    · go_wp2_with fail; exact hK _ (Mod.refl _ _)
    rotate_left
    · rfl
    refine steady_done ?_
    refine lates_end (fun w' hw' _ => ?_)
    simp only [List.drop_succ_cons, List.drop_zero]
    have HY := Lib.hid (HX.out.stays hw')
    clear A0 A3 HX hw'
    obtain ⟨z1, z2, z3⟩ := HY.out.free k
    obtain ⟨-, -, -, a3⟩ := HY.out.cells k hk
    go_wp2_with fail
    have HZ := Lib.hid ((HY.out.setCh k p1).stays ((Mod.refl _ _).alloc (.cells #[] 5)))
    have hR := made_rowM (w'.setCell ⟨hb, k, none⟩ (.int .i64 p1)) w.heap.size 0 #[] rfl (by decide) (by rw [setCell_size]; exact HY.out.mod.size)
    rw [setCell_size] at hR
    have HR := Lib.hid hR
    clear hR
    have HQ0 := Lib.hid (HQ.out 1)
    have HF := HFIN.out
    rw [T1.out] at HQ0 HF
    replace HF := Lib.hid HF
    clear HFIN
    clear z1 z2 z3 a3 HY H1
    generalize w'.setCell ⟨hb, k, none⟩ (.int .i64 p1) = w3 at *
    generalize (⟨c.low, mm, Cod.upd c.ch k p1⟩ : Cod.C) = cs at *
  all_goals
    clear HQ T0 T1 e1 e2 e3 H HC hk1 hk
    go_loopg [8] 4 (fun gk v8 wr => ∃ (c' : Cod.C) (l : List UInt8) (a : Addr) (cap i : Nat), v8 = .slice (some a) l.length cap ∧ Hid (Cod.StR w cb hb c' wr) ∧ Hid (RowM wr w.heap.size v8 l) ∧ Hid (i + gk = 4) ∧ Hid (Cod.Q i c') ∧ Hid (l.length ≤ i) ∧ Hid (l ++ (Cod.nrm gk c').1 = fl ∧ (Cod.nrm gk c').2 = fc))
    case atStart => exact ⟨cs, [], _, _, 0, rfl, HZ, HR, rfl, HQ0, Nat.le_refl _, by rw [HF.out]; exact ⟨rfl, rfl⟩⟩
    case round =>
      obtain ⟨c', l, ad, cap, i, rfl, HS, HRow, hi4, HQ, hl, HF'⟩ := hrel
      clear HZ HR HQ0 HF
      obtain ⟨a0, a1, a2, -⟩ := HS.out.cells 0 (by decide)
      obtain ⟨x, hx, hxd⟩ : ∃ x : Nat, wrap64 ((c'.low : Int) / 16777216) = (x : Int) ∧ x = c'.low / 16777216 := ⟨_, by have h1 := HQ.out.wk.le; have h2 := HQ.out.wk.hi; unfold wrap64; omega, rfl⟩
      obtain ⟨y, hy, hyd⟩ : ∃ y : Nat, wrap64 ((c'.high : Int) / 16777216) = (y : Int) ∧ y = c'.high / 16777216 := ⟨_, by have h1 := HQ.out.wk.le; have h2 := HQ.out.wk.hi; unfold wrap64; omega, rfl⟩
      have hx8 : x < 256 := by have h1 := HQ.out.wk.le; have h2 := HQ.out.wk.hi; omega
      have HXD := Lib.hid hxd
      have HYD := Lib.hid hyd
      clear hxd hyd
      by_cases hxy : x = y
      · subst hxy
        have HSame : Hid (Cod.same c' = true) := by show decide (_ = _) = true; rw [← HXD.out, ← HYD.out]; exact decide_eq_true rfl
        have hgk : gk ≠ 0 := by
          rintro rfl
          have h4 : i = 4 := hi4.out
          have h5 := HQ.out
          rw [h4] at h5
          have h6 := h5.four
          rw [HSame.out] at h6
          cases h6
        have HG := Lib.hid hgk
        clear hgk
        have hx9 : (x : Int) % 256 = (x : Int) := by omega
        go_wp2_with fail
        go_quiet (fail)
        have HS' := Lib.hid (HS.out.stays ((Mod.refl _ _).drewN nq))
        have HRow' := Lib.hid (HRow.out.mod ((Mod.refl [] _).drewN nq) (by simp))
        clear HS HRow a0 a1 a2
        generalize wr.drewN nq = wq at *
        obtain ⟨-, a1, a2, -⟩ := HS'.out.cells 0 (by decide)
        have hsz := Lib.hid HS'.out.mod.size
        go_wp2_with (at_builtin; refine wpList_append_rowM rfl _ _ 28 rfl w.heap.size i0 Tryz.underlying28 hi hz0 hz1 hz2 _ l rfl (HRow'.out.mod ((Mod.refl [] wq).alloc _) (by simp)) ⟨wq.heap.size, 0, none⟩ 1 1 [UInt8.ofNat x] rfl rfl ?_ ?_ ?_ ?_)
        · intro j u hj
          match j, hj with
          | 0, hj =>
            simp only [List.getElem?_cons_zero, Option.some.injEq] at hj
            subst hj
            rw [bcell_ofNat hx8]
            simp [Addr.add]
        · have h1 := hl.out; have h2 := hi4.out; simp; omega
        · have := hsz.out; simp; omega
        intro v' w5 hrow hgrow
        obtain ⟨ad', cap', hv', -⟩ := hrow.cells
        subst hv'
        have HS5 := Lib.hid ((HS'.out.stays ((Mod.refl [] wq).alloc (.cells #[.int .u8 x] 5))).grown (HRow'.out.mod ((Mod.refl [] wq).alloc (.cells #[.int .u8 x] 5)) (by simp)) hgrow)
        have HR5 := Lib.hid hrow
        clear hrow hgrow HS' HRow' a1 a2 hsz
        obtain ⟨-, a1, a2, -⟩ := HS5.out.cells 0 (by decide)
        obtain ⟨z1, z2, -⟩ := HS5.out.free 0
        obtain ⟨sl, sh, hsh, t1, t2⟩ : ∃ sl sh : Nat, Cod.shift c' = ⟨sl, sh, c'.ch⟩ ∧ (c'.low : Int) % 16777216 * 256 = (sl : Int) ∧ (c'.high : Int) % 16777216 * 256 + 255 = (sh : Int) := ⟨_, _, rfl, rfl, rfl⟩
        have HSh := Lib.hid hsh
        have HP := Lib.hid ((HS5.out.setLow sl).setHigh sh)
        have HR6 : Hid (RowM ((w5.setCell ⟨cb, 1, none⟩ (.int .i64 sl)).setCell ⟨cb, 2, none⟩ (.int .i64 sh)) w.heap.size (.slice (some ad') (l ++ [UInt8.ofNat x]).length cap') (l ++ [UInt8.ofNat x])) :=
          HR5.out.kept fun k hk hlt => by
            have hne : k ≠ cb := fun e => HR5.out.ne HS5.out.blk (by decide) (by rw [hk, e])
            rw [Below.heap_setCell _ _ _ _ hne, Below.heap_setCell _ _ _ _ hne]
        clear hsh HS5 HR5
        go_wp2_with fail
        go_roundg (gk - 1)
        case measure => have := HG.out; omega
        case rel =>
          rw [List.length_append] at HR6
          refine ⟨Cod.shift c', l ++ [UInt8.ofNat x], ad', cap', i + 1, by rw [List.length_append]; rfl, ?_, HR6, ?_, ?_, ?_, ?_⟩
          · rw [HSh.out]; exact HP
          · have h1 := hi4.out; have h2 := HG.out; show i + 1 + (gk - 1) = 4; omega
          · exact HQ.out.shift (by have h1 := hi4.out; have h2 := HG.out; omega) HSame.out
          · have h1 := hl.out; show (l ++ [_]).length ≤ i + 1; rw [List.length_append]; simp; omega
          · have h1 := HF'.out
            obtain ⟨g, rfl⟩ : ∃ g, gk = g + 1 := ⟨gk - 1, by have := HG.out; omega⟩
            unfold Cod.nrm at h1
            rw [if_pos HSame.out] at h1
            rw [← HXD.out] at h1
            show (l ++ [UInt8.ofNat x]) ++ (Cod.nrm g (Cod.shift c')).1 = fl ∧ (Cod.nrm g (Cod.shift c')).2 = fc
            rw [List.append_assoc]
            exact h1
      · have hs' : Cod.same c' = false := by show decide (_ = _) = false; rw [← HXD.out, ← HYD.out]; simpa using hxy
        have hxy2 : ((x : Int) == (y : Int)) = false := by rw [beq_eq_false_iff_ne]; omega
        have hf := HF'.out
        rw [Cod.nrm_done hs', List.append_nil] at hf
        obtain ⟨rfl, rfl⟩ := hf
        clear hxy HF'
        go_wp2_with fail
        go_quiet (fail)
        go_wp2_with fail
        go_ret
        exact ⟨ad, cap, rfl, HS.out.stays ((Mod.refl _ _).drewN _), HRow.out.mod ((Mod.refl [] _).drewN _) (by simp)⟩
end Go.Proofs.YtjgklacbelggdaaGreatDoor

/- vary: Factor. -/
import Derived.Test.YtngeijdfpgmcfaaVaryGrown
import Derived.Defers
import Derived.Recover
import Derived.Deep.LoopGhost
namespace Go.Proofs.Ytngeijdfpgmcfaa
open Go.RowKit
set_option linter.unusedVariables false

theorem fac1_idle (p : Addr) (w : World) : CallsD Try.prog 27 #[.pointer (some p)] .returning w fun e u' w' => e = .returned (.tuple #[]) ∧ u' = .returning ∧ w' = w := by
  refine callsD_of_wpS Try.func27 rfl fun c₀ cs hu => ?_
  apply wpS_seq
  apply wpS_region
  simp [wpOpsS, go_sem, recoverD, hu, Try.ntmps27, Exit.thenS]
  refine wpS_cond (t := false) (by simp [Act.eval, Array.replicate]) ?_
  simp only [Bool.false_eq_true, if_false]
  refine wpS_of_wp (wp_skip ?_)
  cases c₀
  simp_all [bodyPostS, results, Try.results27]
theorem fac1_panic (b : Nat) (x y : Value) (u : TypeId) (pv : Value) (older : List PanicEntry) (w : World) (B : Blk w b #[x, y] 51) :
    CallsD Try.prog 27 #[.pointer (some ⟨b, 0, none⟩)] (.panicking ({ v := .iface u pv, recovered := false } :: older)) w fun e u' w' =>
      e = .returned (.tuple #[]) ∧ u' = .panicking ({ v := .iface u pv, recovered := true } :: older) ∧ w' = (w.setCell ⟨b, 0, none⟩ (.int .i64 0)).setCell ⟨b, 1, none⟩ (.int .i64 0) := by
  obtain ⟨c0, c1, z0, z1⟩ := B.two
  refine callsD_of_wpS Try.func27 rfl fun c₀ cs hu => ?_
  apply wpS_seq
  apply wpS_region
  simp [wpOpsS, go_sem, recoverD, hu, Try.ntmps27, Exit.thenS]
  refine wpS_cond (t := true) (by simp [Act.eval, Array.replicate]) ?_
  simp only [if_true]
  apply wpS_region
  simp [wpOpsS, go_sem, c0, c1, z0, z1, bodyPostS, results, Try.results27]

/-- What lies in the two rows. -/
def TentsAt (w : World) (b o : Nat) (ts : List (Int × Int × Int)) : Prop := b < w.heap.size ∧ ∀ i (h : i < ts.length), w.cell? ⟨b, o + i * 3, none⟩ = some (.int .i64 ts[i].1) ∧ w.cell? ⟨b, o + i * 3 + 1, none⟩ = some (.int .i64 ts[i].2.1) ∧ w.cell? ⟨b, o + i * 3 + 2, none⟩ = some (.int .i64 ts[i].2.2)
def RatsAt (w : World) (b o : Nat) (xs : List (Int × Int)) : Prop := b < w.heap.size ∧ ∀ i (h : i < xs.length), w.cell? ⟨b, o + i * 2, none⟩ = some (.int .i64 xs[i].1) ∧ w.cell? ⟨b, o + i * 2 + 1, none⟩ = some (.int .i64 xs[i].2)
theorem TentsAt.mod {w w' : World} {b o : Nat} {ts : List (Int × Int × Int)} (h : TentsAt w b o ts) (m : Mod [] w w') : TentsAt w' b o ts :=
  ⟨Nat.lt_of_lt_of_le h.1 m.size, fun i hi => by
    obtain ⟨h1, h2, h3⟩ := h.2 i hi
    exact ⟨(m.cell (p := ⟨b, o + i * 3, none⟩) h.1 (by simp)).trans h1, (m.cell (p := ⟨b, o + i * 3 + 1, none⟩) h.1 (by simp)).trans h2, (m.cell (p := ⟨b, o + i * 3 + 2, none⟩) h.1 (by simp)).trans h3⟩⟩
theorem RatsAt.mod {w w' : World} {b o : Nat} {xs : List (Int × Int)} (h : RatsAt w b o xs) (m : Mod [] w w') : RatsAt w' b o xs :=
  ⟨Nat.lt_of_lt_of_le h.1 m.size, fun i hi => by
    obtain ⟨h1, h2⟩ := h.2 i hi
    exact ⟨(m.cell (p := ⟨b, o + i * 2, none⟩) h.1 (by simp)).trans h1, (m.cell (p := ⟨b, o + i * 2 + 1, none⟩) h.1 (by simp)).trans h2⟩⟩
theorem add_zero {a b : Int} (h : Rat.rightB a b = true) (ha : a ≤ 9223372036854775807) (ha' : -9223372036854775808 ≤ a) (hb : b ≤ 9223372036854775807) : Rat.addR a b 0 1 = (a, b, true) := by
  obtain ⟨h1, h2, h3⟩ := (Rat.rightB_iff _ _).1 h
  rw [Rat.addR_tell h ((Rat.rightB_iff _ _).2 ⟨by omega, by omega, by simp [Nat.Coprime]⟩)]
  exact Rat.tell_of (by omega) h (by simp) (by omega) hb

/-- What the tents multiply to, none where something is given up. -/
def Vr.prodR : List (Int × Int × Int) → List (Int × Int) → Int × Int → Option (Int × Int)
  | t :: ts, x :: xs, f => match Vr.underR t.1 t.2.1 t.2.2 x.1 x.2 with
    | some u => if (Rat.mulR f.1 f.2 u.1 u.2).2.2 = true then Vr.prodR ts xs ((Rat.mulR f.1 f.2 u.1 u.2).1, (Rat.mulR f.1 f.2 u.1 u.2).2.1) else none
    | none => none
  | _, _, f => some f

theorem toldR_in (m : Bool) (n d : Nat) : (-9223372036854775807 ≤ (Rat.toldR m n d).1 ∧ (Rat.toldR m n d).1 ≤ 9223372036854775807) ∧ (-9223372036854775807 ≤ (Rat.toldR m n d).2.1 ∧ (Rat.toldR m n d).2.1 ≤ 9223372036854775807) := by
  rw [Rat.toldR_sg]
  split
  · rename_i h
    have h1 : (Rat.sg m n).natAbs = n := Rat.natAbs_sg m n
    simp only
    omega
  · simp
theorem mulR_in (a b c d : Int) : (-9223372036854775807 ≤ (Rat.mulR a b c d).1 ∧ (Rat.mulR a b c d).1 ≤ 9223372036854775807) ∧ (-9223372036854775807 ≤ (Rat.mulR a b c d).2.1 ∧ (Rat.mulR a b c d).2.1 ≤ 9223372036854775807) := by
  unfold Rat.mulR
  split
  · exact toldR_in _ _ _
  · simp
theorem divR_in (a b c d : Int) : (-9223372036854775807 ≤ (Rat.divR a b c d).1 ∧ (Rat.divR a b c d).1 ≤ 9223372036854775807) ∧ (-9223372036854775807 ≤ (Rat.divR a b c d).2.1 ∧ (Rat.divR a b c d).2.1 ≤ 9223372036854775807) := by
  unfold Rat.divR
  split
  · split <;> exact mulR_in _ _ _ _
  · simp
theorem quot_in {a b : Int × Int × Bool} {u : Int × Int} (h : Vr.quot a b = some u) : (-9223372036854775807 ≤ u.1 ∧ u.1 ≤ 9223372036854775807) ∧ (-9223372036854775807 ≤ u.2 ∧ u.2 ≤ 9223372036854775807) := by
  unfold Vr.quot at h
  split at h
  · have := Option.some.inj h
    subst this
    exact divR_in _ _ _ _
  · cases h
theorem under_in {s p e n d : Int} {u : Int × Int} (h : Vr.underR s p e n d = some u) : (-9223372036854775807 ≤ u.1 ∧ u.1 ≤ 9223372036854775807) ∧ (-9223372036854775807 ≤ u.2 ∧ u.2 ≤ 9223372036854775807) := by
  unfold Vr.underR at h
  split at h
  · have := Option.some.inj h; subst this; simp
  · split at h
    · have := Option.some.inj h; subst this; simp
    · split at h <;> exact quot_in h
theorem prod_step {ts : List (Int × Int × Int)} {xs : List (Int × Int)} {f r : Int × Int} {j : Nat} (h1 : j < ts.length) (h2 : j < xs.length) (h : Vr.prodR (ts.drop j) (xs.drop j) f = some r) :
    ∃ u, Vr.underR ts[j].1 ts[j].2.1 ts[j].2.2 xs[j].1 xs[j].2 = some u ∧ (Rat.mulR f.1 f.2 u.1 u.2).2.2 = true ∧ Vr.prodR (ts.drop (j + 1)) (xs.drop (j + 1)) ((Rat.mulR f.1 f.2 u.1 u.2).1, (Rat.mulR f.1 f.2 u.1 u.2).2.1) = some r := by
  rw [List.drop_eq_getElem_cons h1, List.drop_eq_getElem_cons h2] at h
  unfold Vr.prodR at h
  split at h
  · rename_i u hu
    split at h
    · rename_i hm; exact ⟨u, hu, hm, h⟩
    · cases h
  · cases h

set_option maxHeartbeats 4000000 in
theorem factor_yes (ts : List (Int × Int × Int)) (xs : List (Int × Int)) (fa fb : Int) (b o cap b2 o2 cap2 : Nat) (w : World) (hl : ts.length = xs.length) (hlen : xs.length ≤ 1000)
    (hTr : ∀ t ∈ ts, (-9223372036854775807 ≤ t.1 ∧ t.1 ≤ 9223372036854775807) ∧ (-9223372036854775807 ≤ t.2.1 ∧ t.2.1 ≤ 9223372036854775807) ∧ (-9223372036854775807 ≤ t.2.2 ∧ t.2.2 ≤ 9223372036854775807)) (hP : Vr.prodR ts xs (1, 1) = some (fa, fb)) (hT : TentsAt w b o ts) (hX : RatsAt w b2 o2 xs) (hR : ∀ x ∈ xs, Rat.rightB x.1 x.2 = true ∧ (-9223372036854775808 ≤ x.1 ∧ x.1 ≤ 9223372036854775807) ∧ (-9223372036854775808 ≤ x.2 ∧ x.2 ≤ 9223372036854775807)) :
    Calls Try.prog 16 #[.agg #[.slice (some ⟨b, o, none⟩) ts.length cap], .slice (some ⟨b2, o2, none⟩) xs.length cap2] w fun e w' => e = .returned (.agg #[.int .i64 fa, .int .i64 fb]) ∧ Mod [] w w' := by
  have hmf : ∀ (fn : Fn) (first cap : Array Value) (w : World), (Instr.makeFunc fn first cap).run Try.prog w = .ok (.func fn first cap) w := fun _ _ _ _ => rfl
  rw [hl]
  obtain ⟨N, hN⟩ : ∃ N, N = xs.length := ⟨_, rfl⟩
  rw [← hN]
  have T := Lib.hid (own2 w #[.slice (some ⟨b, o, none⟩) N cap] 64 #[.int .i64 0, .int .i64 0] 51)
  have HT := Lib.hid hT
  have HX := Lib.hid hX
  have HRt := Lib.hid hR
  have HTr := Lib.hid hTr
  have HP := Lib.hid hP
  have HN := Lib.hid (And.intro hN (hl.trans hN.symm))
  have hN1 : N ≤ 1000 := by omega
  clear hT hX hR hN hl hlen hTr hP
  go_enter_defers Try.func16, Try.ntmps16
  go_upto_region 4 with fail
  generalize (w.alloc (.cells #[.slice (some ⟨b, o, none⟩) N cap] 64)).alloc (.cells #[.int .i64 0, .int .i64 0] 51) = W0 at *
  go_wp2_with fail
  go_loopg [19] N (fun gk i wr => ∃ k : Nat, k + gk = N ∧ i = .int .i64 (k : Int) ∧ Hid (Own w wr [(w.heap.size, #[.slice (some ⟨b, o, none⟩) N cap], 64), (w.heap.size + 1, #[.int .i64 0, .int .i64 0], 51)]))
  case atStart => exact ⟨0, by omega, rfl, T.out⟩
  case round =>
    obtain ⟨k, hk, rfl, HTT⟩ := hrel
    clear T
    by_cases hkN : k < N
    · have k1 : decide ((k : Int) < (N : Int)) = true := decide_eq_true (by omega)
      obtain ⟨c0, c1⟩ := (HX.out.mod HTT.out.mod).2 k (by have := HN.out.1; omega)
      have k2 : (0 : Int) ≤ k := by omega
      have k3 : decide (k < N) = true := decide_eq_true hkN
      have hkx : k < xs.length := by have := HN.out.1; omega
      obtain ⟨hr, hi1, hi2⟩ := HRt.out xs[k] (List.getElem_mem hkx)
      have HA := Lib.hid (fun W => add_any xs[k].1 xs[k].2 0 1 W hi1 hi2 (by omega) (by omega))
      rw [add_zero hr hi1.2 hi1.1 hi2.2] at HA
      have HM := Lib.hid (fun W => must_ok xs[k].1 xs[k].2 W)
      have HW := Lib.hid (fun W => wholeV_any 0 W)
      generalize xs[k].1 = xa at *
      generalize xs[k].2 = xb at *
      clear hr hi1 hi2 hkx
      have T1 := Lib.hid (HTT.out.alloc #[.int .i64 xa, .int .i64 xb] 51)
      clear HTT
      go_upto_region 7 with fail
      generalize wr.alloc (.cells #[.int .i64 xa, .int .i64 xb] 51) = W1 at *
      generalize wr.heap.size = b6 at *
      have A2 := (T1.out.at 2 rfl).every
      refine wp_region_mask 6 [true, true, true, true, true, true] [] (by kernel_rfl) (by kernel_rfl) (by simp) ?_
      simp only [pickM]
      refine steady_go (a' := ?_) (by kernel_rfl) ?_ (fun w' hw' K Q hK => ?_) ?_
      rotate_left 2
      · go_wp2_with fail; exact hK _ (Mod.refl _ _)
      rotate_left
      · rfl
      refine steady_go (a' := ?_) (by kernel_rfl) ?_ (fun w' hw' K Q hK => ?_) ?_
      rotate_left 2
      · go_wp2_with fail
        refine ((calls_mod HW.out) _ hw').mono ?_
        rintro e w'' ⟨rfl, m''⟩
        go_wp2_with fail
        exact hK _ m''
      rotate_left
      · rfl
      refine steady_go (a' := ?_) (by kernel_rfl) ?_ (fun w' hw' K Q hK => ?_) ?_
      rotate_left 2
      · go_wp2_with fail
        refine ((calls_mod HA.out) _ hw').mono ?_
        rintro e w'' ⟨rfl, m''⟩
        go_wp2_with fail
        exact hK _ m''
      rotate_left
      · rfl
      refine steady_go (a' := ?_) (by kernel_rfl) ?_ (fun w' hw' K Q hK => ?_) ?_
      rotate_left 2
      · go_wp2_with fail; exact hK _ (Mod.refl _ _)
      rotate_left
      · rfl
      refine steady_go (a' := ?_) (by kernel_rfl) ?_ (fun w' hw' K Q hK => ?_) ?_
      rotate_left 2
      · go_wp2_with fail; exact hK _ (Mod.refl _ _)
      rotate_left
      · rfl
      refine steady_go (a' := ?_) (by kernel_rfl) ?_ (fun w' hw' K Q hK => ?_) ?_
      rotate_left 2
      · go_wp2_with fail
        refine ((calls_mod HM.out) _ hw').mono ?_
        rintro e w'' ⟨rfl, m''⟩
        go_wp2_with fail
        exact hK _ m''
      rotate_left
      · rfl
      refine steady_done ?_
      refine lates_end (fun w' hw' _ => ?_)
      simp only [List.drop_succ_cons, List.drop_zero]
      have T2 := Lib.hid (Own.left (l' := [(b6, #[.int .i64 xa, .int .i64 xb], 51)]) (T1.out.call hw'))
      clear A2 hw' T1 HA HM HW c0 c1
      have e1 : IntKind.i64.wrap ((k : Int) + 1) = (k : Int) + 1 := IntWalk.i64_in _ (by omega)
      go_wp2_with fail
      go_roundg (gk - 1)
      case measure => omega
      case rel => exact ⟨k + 1, by omega, by simp, T2.out⟩
    · have hkN' : N = k := by omega
      subst hkN'
      have k1 : decide ((N : Int) < (N : Int)) = false := decide_eq_false (by omega)
      go_upto_region 9 with fail
      clear k1 hkN hk
      go_wp2_with fail
      refine (wholeV_any _ _).mono ?_
      rintro e w2 ⟨rfl, m2⟩
      have T2 := Lib.hid (HTT.out.call m2)
      clear m2 HTT
      have T3 := Lib.hid ((T2.out.set 1 rfl 0 (.int .i64 1)).set 1 rfl 1 (.int .i64 1))
      obtain ⟨q0, q1, z0, z1⟩ := (T2.out.at 1 rfl).two
      go_upto_region 10 with fail
      generalize (w2.setCell ⟨w.heap.size + 1, 0, none⟩ (.int .i64 1)).setCell ⟨w.heap.size + 1, 1, none⟩ (.int .i64 1) = W3 at *
      clear q0 q1 z0 z1 T2
      have p0 : W3.cell? ⟨w.heap.size, 0, none⟩ = some (.slice (some ⟨b, o, none⟩) N cap) := by rw [(T3.out.at 0 rfl).cell]; rfl
      go_wp2_with fail
      clear p0
      go_loopg [34] N (fun gk i wr => ∃ (j : Nat) (ga gb : Int), j + gk = N ∧ i = .int .i64 (j : Int) ∧ Hid (Own w wr [(w.heap.size, #[.slice (some ⟨b, o, none⟩) N cap], 64), (w.heap.size + 1, #[.int .i64 ga, .int .i64 gb], 51)] ∧ Vr.prodR (ts.drop j) (xs.drop j) (ga, gb) = some (fa, fb) ∧ (-9223372036854775807 ≤ ga ∧ ga ≤ 9223372036854775807) ∧ (-9223372036854775807 ≤ gb ∧ gb ≤ 9223372036854775807)))
      case atStart => exact ⟨0, 1, 1, by omega, rfl, T3.out, HP.out, by omega, by omega⟩
      case round =>
        obtain ⟨j, ga, gb, hj, rfl, HTT⟩ := hrel
        clear T3
        by_cases hjN : j < N
        · have k1 : decide ((j : Int) < (N : Int)) = true := decide_eq_true (by omega)
          have k2 : (0 : Int) ≤ j := by omega
          have k3 : decide (j < N) = true := decide_eq_true hjN
          have hjx : j < xs.length := by have := HN.out.1; omega
          have hjt : j < ts.length := by have := HN.out.2; omega
          obtain ⟨T4, hpr, hga, hgb⟩ := HTT.out
          have T4 := Lib.hid T4
          obtain ⟨u, hu, hm, hpr2⟩ := prod_step hjt hjx hpr
          obtain ⟨-, hi1, hi2⟩ := HRt.out xs[j] (List.getElem_mem hjx)
          obtain ⟨ht1, ht2, ht3⟩ := HTr.out ts[j] (List.getElem_mem hjt)
          have hui := under_in hu
          have HU := Lib.hid (fun W => under_yes _ _ _ _ _ u W ht1 ht2 ht3 hi1 hi2 hu)
          have HMu := Lib.hid (fun W => mul_any ga gb u.1 u.2 W (by omega) (by omega) (by omega) (by omega))
          have hin := mulR_in ga gb u.1 u.2
          simp only at hm hpr2
          obtain ⟨⟨na, nb, nc⟩, hmv⟩ : ∃ t, Rat.mulR ga gb u.1 u.2 = t := ⟨_, rfl⟩
          rw [hmv] at hm hpr2 HMu hin
          simp only at hm hpr2 hin
          subst hm
          have HNX := Lib.hid (And.intro hpr2 hin)
          have HMm := Lib.hid (fun W => must_ok na nb W)
          obtain ⟨c0, c1, c2⟩ := (HT.out.mod T4.out.mod).2 j hjt
          have x0 : ∀ W, Mod [] w W → W.cell? ⟨b2, o2 + j * 2, none⟩ = some (.int .i64 xs[j].1) := fun W m => ((HX.out.mod m).2 j hjx).1
          have x1 : ∀ W, Mod [] w W → W.cell? ⟨b2, o2 + j * 2 + 1, none⟩ = some (.int .i64 xs[j].2) := fun W m => ((HX.out.mod m).2 j hjx).2
          generalize xs[j].1 = xa at *
          generalize xs[j].2 = xb at *
          generalize ts[j].1 = ta at *
          generalize ts[j].2.1 = tb at *
          generalize ts[j].2.2 = tc at *
          obtain ⟨ua, ub⟩ := u
          simp only at HU HMu
          clear hi1 hi2 ht1 ht2 ht3 hui hmv hpr hpr2 hin hu HTT hga hgb
          have T5 := Lib.hid (T4.out.alloc #[.int .i64 ta, .int .i64 tb, .int .i64 tc] 75)
          clear T4
          go_upto_region 13 with fail
          generalize wr.alloc (.cells #[.int .i64 ta, .int .i64 tb, .int .i64 tc] 75) = W5 at *
          generalize wr.heap.size = b8 at *
          clear c0 c1 c2
          have A1 := (T5.out.at 1 rfl).every
          have A2 := (T5.out.at 2 rfl).every
          have X0 : ∀ W, Mod [] W5 W → W.cell? ⟨b2, o2 + j * 2, none⟩ = some (.int .i64 xa) := fun W m => x0 W (T5.out.mod.then m)
          have X1 : ∀ W, Mod [] W5 W → W.cell? ⟨b2, o2 + j * 2 + 1, none⟩ = some (.int .i64 xb) := fun W m => x1 W (T5.out.mod.then m)
          clear x0 x1
          refine wp_region_mask 11 [true, true, true, true, true, true, true, true, true, true, true] [] (by kernel_rfl) (by kernel_rfl) (by simp) ?_
          simp only [pickM]
          refine steady_go (a' := ?_) (by kernel_rfl) ?_ (fun w' hw' K Q hK => ?_) ?_
          rotate_left 2
          · go_wp2_with fail; exact hK _ (Mod.refl _ _)
          rotate_left
          · rfl
          refine steady_go (a' := ?_) (by kernel_rfl) ?_ (fun w' hw' K Q hK => ?_) ?_
          rotate_left 2
          · go_wp2_with fail; exact hK _ (Mod.refl _ _)
          rotate_left
          · rfl
          refine steady_go (a' := ?_) (by kernel_rfl) ?_ (fun w' hw' K Q hK => ?_) ?_
          rotate_left 2
          · go_wp2_with fail; exact hK _ (Mod.refl _ _)
          rotate_left
          · rfl
          refine steady_go (a' := ?_) (by kernel_rfl) ?_ (fun w' hw' K Q hK => ?_) ?_
          rotate_left 2
          · go_wp2_with fail; exact hK _ (Mod.refl _ _)
          rotate_left
          · rfl
          refine steady_go (a' := ?_) (by kernel_rfl) ?_ (fun w' hw' K Q hK => ?_) ?_
          rotate_left 2
          · go_wp2_with fail; exact hK _ (Mod.refl _ _)
          rotate_left
          · rfl
          refine steady_go (a' := ?_) (by kernel_rfl) ?_ (fun w' hw' K Q hK => ?_) ?_
          rotate_left 2
          · go_wp2_with fail; exact hK _ (Mod.refl _ _)
          rotate_left
          · rfl
          refine steady_go (a' := ?_) (by kernel_rfl) ?_ (fun w' hw' K Q hK => ?_) ?_
          rotate_left 2
          · go_wp2_with fail
            refine ((calls_mod HU.out) _ hw').mono ?_
            rintro e w'' ⟨rfl, m''⟩
            go_wp2_with fail
            exact hK _ m''
          rotate_left
          · rfl
          refine steady_go (a' := ?_) (by kernel_rfl) ?_ (fun w' hw' K Q hK => ?_) ?_
          rotate_left 2
          · go_wp2_with fail
            refine ((calls_mod HMu.out) _ hw').mono ?_
            rintro e w'' ⟨rfl, m''⟩
            go_wp2_with fail
            exact hK _ m''
          rotate_left
          · rfl
          refine steady_go (a' := ?_) (by kernel_rfl) ?_ (fun w' hw' K Q hK => ?_) ?_
          rotate_left 2
          · go_wp2_with fail; exact hK _ (Mod.refl _ _)
          rotate_left
          · rfl
          refine steady_go (a' := ?_) (by kernel_rfl) ?_ (fun w' hw' K Q hK => ?_) ?_
          rotate_left 2
          · go_wp2_with fail; exact hK _ (Mod.refl _ _)
          rotate_left
          · rfl
          refine steady_go (a' := ?_) (by kernel_rfl) ?_ (fun w' hw' K Q hK => ?_) ?_
          rotate_left 2
          · go_wp2_with fail
            refine ((calls_mod HMm.out) _ hw').mono ?_
            rintro e w'' ⟨rfl, m''⟩
            go_wp2_with fail
            exact hK _ m''
          rotate_left
          · rfl
          refine steady_done ?_
          refine lates_end (fun w' hw' _ => ?_)
          simp only [List.drop_succ_cons, List.drop_zero]
          have T6 := Lib.hid (T5.out.call hw')
          clear A1 A2 X0 X1 hw' T5 HU HMu HMm
          have T7 := Lib.hid (Own.left (l := [(w.heap.size, #[.slice (some ⟨b, o, none⟩) N cap], 64), (w.heap.size + 1, #[.int .i64 na, .int .i64 nb], 51)]) (l' := [(b8, #[.int .i64 ta, .int .i64 tb, .int .i64 tc], 75)]) ((T6.out.set 1 rfl 0 (.int .i64 na)).set 1 rfl 1 (.int .i64 nb)))
          obtain ⟨q0, q1, z0, z1⟩ := (T6.out.at 1 rfl).two
          go_upto_region 14 with fail
          generalize (w'.setCell ⟨w.heap.size + 1, 0, none⟩ (.int .i64 na)).setCell ⟨w.heap.size + 1, 1, none⟩ (.int .i64 nb) = W7 at *
          clear q0 q1 z0 z1 T6
          have e1 : IntKind.i64.wrap ((j : Int) + 1) = (j : Int) + 1 := IntWalk.i64_in _ (by omega)
          go_wp2_with fail
          go_roundg (gk - 1)
          case measure => omega
          case rel => exact ⟨j + 1, na, nb, by omega, by simp, T7.out, HNX.out.1, HNX.out.2.1, HNX.out.2.2⟩
        · have hjN' : N = j := by omega
          subst hjN'
          have k1 : decide ((N : Int) < (N : Int)) = false := decide_eq_false (by omega)
          obtain ⟨T4, hpr, hga, hgb⟩ := HTT.out
          have T4 := Lib.hid T4
          have hfin : ga = fa ∧ gb = fb := by
            rw [List.drop_eq_nil_of_le (by have := HN.out.2; omega)] at hpr
            unfold Vr.prodR at hpr
            have := Option.some.inj hpr
            simp only [Prod.mk.injEq] at this
            exact this
          obtain ⟨rfl, rfl⟩ := hfin
          clear hpr hga hgb HTT
          obtain ⟨q0, q1, z0, z1⟩ := (T4.out.at 1 rfl).two
          go_wp2_with fail
          obtain ⟨r0, r1, M⟩ := told_end T4.out 1 rfl (.int .i64 ga) (.int .i64 gb)
          have HM := Lib.hid M
          clear M z0 z1 q0 q1 T4
          generalize (wr.setCell ⟨w.heap.size + 1, 0, none⟩ (.int .i64 ga)).setCell ⟨w.heap.size + 1, 1, none⟩ (.int .i64 gb) = W9 at *
          refine leaves_cons (f := 27) (args := #[.pointer (some ⟨w.heap.size + 1, 0, none⟩)]) (by simp) (by simp [go_sem]) ?_
          refine (fac1_idle _ _).mono ?_
          rintro e u' w'' ⟨rfl, rfl, rfl⟩
          simp [Leaves, settle, results, Try.results16, go_sem, r0, r1]
          exact HM.out
end Go.Proofs.Ytngeijdfpgmcfaa

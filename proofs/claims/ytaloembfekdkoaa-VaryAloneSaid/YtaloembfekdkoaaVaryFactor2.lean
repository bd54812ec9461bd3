/- vary: Factor, whatever comes of it. -/
import Derived.Test.YtaloembfekdkoaaVaryFactor
import Derived.Test.YtaloembfekdkoaaVaryUnder2
import Derived.Test.YtaloembfekdkoaaGKit
namespace Go.Proofs.Ytaloembfekdkoaa
open Go.RowKit
set_option linter.unusedVariables false
set_option maxRecDepth 100000
def RRat (B : Nat) (w : World) (cs : List Value) (x : Int × Int) : Prop := cs = [.int .i64 x.1, .int .i64 x.2] ∧ Rat.rightB x.1 x.2 = true ∧ I64 x.1 ∧ I64 x.2
theorem RRat.stay : Stay RRat := fun _ _ _ _ _ h _ => h
theorem RRat.lower : Lower RRat := fun _ _ _ _ _ h _ => h
def triple (t : DTent) : Int × Int × Int := (t.start, t.peak, t.stop)
def Vr.factorR (ts : List DTent) (xs : List (Int × Int)) : Int × Int := if ts.length = xs.length then (Vr.prodR (ts.map triple) xs (1, 1)).getD (0, 0) else (0, 0)
theorem prod_at {ts : List DTent} {xs : List (Int × Int)} {f : Int × Int} {j : Nat} (h1 : j < ts.length) (h2 : j < xs.length) : Vr.prodR ((ts.map triple).drop j) (xs.drop j) f =
    match Vr.underR (ts[j]).start (ts[j]).peak (ts[j]).stop xs[j].1 xs[j].2 with
    | some u => if (Rat.mulR f.1 f.2 u.1 u.2).2.2 = true then Vr.prodR ((ts.map triple).drop (j + 1)) (xs.drop (j + 1)) ((Rat.mulR f.1 f.2 u.1 u.2).1, (Rat.mulR f.1 f.2 u.1 u.2).2.1) else none
    | none => none := by
  rw [List.drop_eq_getElem_cons (l := ts.map triple) (by simpa using h1), List.drop_eq_getElem_cons h2, List.getElem_map]
  rfl
set_option maxHeartbeats 8000000 in
theorem factor_any (ts : List DTent) (xs : List (Int × Int)) (v av : Value) (B B2 : Nat) (w : World) (hT : Rows 3 RTent B w v ts) (hX : Rows 2 RRat B2 w av xs) :
    Calls Try.prog 17 #[.agg #[v], av] w fun e w' => e = .returned (.agg #[.int .i64 (Vr.factorR ts xs).1, .int .i64 (Vr.factorR ts xs).2]) ∧ Mod [] w w' := by
  have hmf : ∀ (fn : Fn) (first cap : Array Value) (w : World), (Instr.makeFunc fn first cap).run Try.prog w = .ok (.func fn first cap) w := fun _ _ _ _ => rfl
  obtain ⟨ta, tc, rfl, htm⟩ := hT.form
  obtain ⟨xa, xc, rfl, hxm⟩ := hX.form
  have HT := Lib.hid hT
  have HX := Lib.hid hX
  have hml : maxLen ≤ 9223372036854775807 := by decide
  have HN := Lib.hid (And.intro (Nat.le_trans htm hml) (Nat.le_trans hxm hml))
  clear hT hX htm hxm hml
  have T := Lib.hid (own2 w #[.slice ta ts.length tc] 72 #[.int .i64 0, .int .i64 0] 68)
  by_cases hl : ts.length = xs.length
  case neg =>
    have hv : Vr.factorR ts xs = (0, 0) := by unfold Vr.factorR; rw [if_neg hl]
    rw [hv]
    have k1 : (((ts.length : Int)) != (xs.length : Int)) = true := by simp; omega
    have k1' : ((ts.length : Int) == (xs.length : Int)) = false := by simp; omega
    clear hl hv
    go_enter_defers Try.func17, Try.ntmps17
    go_wp2_with fail
    refine leaves_cons (f := 33) (args := #[.pointer (some ⟨w.heap.size + 1, 0, none⟩)]) (by simp) (by simp [go_sem]) ?_
    refine (fac1_panic (w.heap.size + 1) _ _ _ _ [] _ (T.out.at 1 rfl)).mono ?_
    rintro e u' w'' ⟨rfl, rfl, rfl⟩
    obtain ⟨r0, r1, M⟩ := told_end T.out 1 rfl (.int .i64 0) (.int .i64 0)
    have HM := Lib.hid M
    generalize (((w.alloc (.cells #[.slice ta ts.length tc] 72)).alloc (.cells #[.int .i64 0, .int .i64 0] 68)).setCell ⟨w.heap.size + 1, 0, none⟩ (.int .i64 0)).setCell ⟨w.heap.size + 1, 1, none⟩ (.int .i64 0) = W9 at *
    simp [Leaves, settle, results, Try.results17, go_sem, r0, r1]
    exact HM.out
  have hv : Vr.factorR ts xs = (Vr.prodR (ts.map triple) xs (1, 1)).getD (0, 0) := by unfold Vr.factorR; rw [if_pos hl]
  rw [hv]
  have k1 : (((ts.length : Int)) != (xs.length : Int)) = false := by simp; omega
  have k1' : ((ts.length : Int) == (xs.length : Int)) = true := by simp; omega
  have HL := Lib.hid hl
  obtain ⟨res, hres⟩ : ∃ res, Vr.prodR (ts.map triple) xs (1, 1) = res := ⟨_, rfl⟩
  have HP := Lib.hid hres
  rw [hres]
  clear hl hv hres
  go_enter_defers Try.func17, Try.ntmps17
  go_upto_region 4 with fail
  generalize (w.alloc (.cells #[.slice ta ts.length tc] 72)).alloc (.cells #[.int .i64 0, .int .i64 0] 68) = W0 at *
  clear k1 k1'
  go_wp2_with fail
  go_loopg [19] xs.length (fun gk i wr => ∃ k : Nat, Hid (k + gk = xs.length) ∧ i = .int .i64 (k : Int) ∧ Hid (Own w wr [(w.heap.size, #[.slice ta ts.length tc], 72), (w.heap.size + 1, #[.int .i64 0, .int .i64 0], 68)]))
  case atStart => exact ⟨0, by show 0 + xs.length = xs.length; omega, rfl, T.out⟩
  case round =>
    obtain ⟨k, hk, rfl, HTT⟩ := hrel
    clear T
    by_cases hkN : k < xs.length
    · have k1 : decide ((k : Int) < (xs.length : Int)) = true := decide_eq_true (by omega)
      have k2 : (0 : Int) ≤ k := by omega
      have k3 : (k : Int) < (xs.length : Int) := by omega
      obtain ⟨a, rfl, -, cs, -, hc0, hcj, rfl, hr, hi1, hi2⟩ := (HX.out.mod RRat.stay HTT.out.mod).at k hkN
      have c0 := hc0 (by decide)
      have c1 := hcj 1 (by decide) (by decide)
      simp only [List.getElem?_cons_zero, List.getElem?_cons_succ] at c0 c1
      unfold I64 at hi1 hi2
      have HA := Lib.hid (fun W => add_any xs[k].1 xs[k].2 0 1 W hi1 hi2 (by omega) (by omega))
      rw [add_zero hr hi1.2 hi1.1 hi2.2] at HA
      have HM := Lib.hid (fun W => must_ok xs[k].1 xs[k].2 W)
      have HW := Lib.hid (fun W => wholeV_any 0 W)
      generalize xs[k].1 = xa' at *
      generalize xs[k].2 = xb at *
      clear hr hi1 hi2 hc0 hcj
      have T1 := Lib.hid (HTT.out.alloc #[.int .i64 xa', .int .i64 xb] 68)
      have e1 : IntKind.i64.wrap ((k : Int) + 1) = (k : Int) + 1 := IntWalk.i64_in _ (by have := HN.out; omega)
      clear HTT hkN
      go_upto_region 7 with fail
      generalize wr.alloc (.cells #[.int .i64 xa', .int .i64 xb] 68) = W1 at *
      generalize wr.heap.size = b6 at *
      have A2 := (T1.out.at 2 rfl).every
      refine wp_region_mask 6 [true, true, true, true, true, true] [] (by kernel_rfl) (by kernel_rfl) (by simp) ?_
      simp only [pickM]
      refine steady_go (a' := ?_) (by kernel_rfl) ?_ (fun w' hw' K Q hK => ?_) ?_
      rotate_left 2
      · go_wp2_with fail; exact hK _ (Mod.refl _ _)
      rotate_left
      · rfl
      refine steady_go (a' := ?_) (by kernel_rfl) ?_ (fun w' hw' K Q hK => ?_) ?_
      rotate_left 2
      · go_wp2_with fail
        refine ((calls_mod HW.out) _ hw').mono ?_
        rintro e w'' ⟨rfl, m''⟩
        go_wp2_with fail
        exact hK _ m''
      rotate_left
      · rfl
      refine steady_go (a' := ?_) (by kernel_rfl) ?_ (fun w' hw' K Q hK => ?_) ?_
      rotate_left 2
      · go_wp2_with fail
        refine ((calls_mod HA.out) _ hw').mono ?_
        rintro e w'' ⟨rfl, m''⟩
        go_wp2_with fail
        exact hK _ m''
      rotate_left
      · rfl
      iterate 2
       refine steady_go (a' := ?_) (by kernel_rfl) ?_ (fun w' hw' K Q hK => ?_) ?_
       rotate_left 2
       · go_wp2_with fail; exact hK _ (Mod.refl _ _)
       rotate_left
       · rfl
      refine steady_go (a' := ?_) (by kernel_rfl) ?_ (fun w' hw' K Q hK => ?_) ?_
      rotate_left 2
      · go_wp2_with fail
        refine ((calls_mod HM.out) _ hw').mono ?_
        rintro e w'' ⟨rfl, m''⟩
        go_wp2_with fail
        exact hK _ m''
      rotate_left
      · rfl
      refine steady_done ?_
      refine lates_end (fun w' hw' _ => ?_)
      simp only [List.drop_succ_cons, List.drop_zero]
      have T2 := Lib.hid (Own.left (l' := [(b6, #[.int .i64 xa', .int .i64 xb], 68)]) (T1.out.call hw'))
      clear A2 hw' T1 HA HM HW c0 c1
      go_wp2_with fail
      go_roundg (gk - 1)
      case measure => have := hk.out; omega
      case rel => exact ⟨k + 1, by have := hk.out; show k + 1 + (gk - 1) = xs.length; omega, by rw [Int.natCast_add]; rfl, T2.out⟩
    · have hkN' : k = xs.length := by have := hk.out; omega
      subst hkN'
      have k1 : decide ((xs.length : Int) < (xs.length : Int)) = false := decide_eq_false (by omega)
      go_upto_region 9 with fail
      clear k1 hkN hk
      go_wp2_with fail
      refine (wholeV_any _ _).mono ?_
      rintro e w2 ⟨rfl, m2⟩
      have T2 := Lib.hid (HTT.out.call m2)
      clear m2 HTT
      have T3 := Lib.hid ((T2.out.set 1 rfl 0 (.int .i64 1)).set 1 rfl 1 (.int .i64 1))
      obtain ⟨q0, q1, z0, z1⟩ := (T2.out.at 1 rfl).two
      go_upto_region 10 with fail
      generalize (w2.setCell ⟨w.heap.size + 1, 0, none⟩ (.int .i64 1)).setCell ⟨w.heap.size + 1, 1, none⟩ (.int .i64 1) = W3 at *
      clear q0 q1 z0 z1 T2
      have p0 : W3.cell? ⟨w.heap.size, 0, none⟩ = some (.slice ta ts.length tc) := by rw [(T3.out.at 0 rfl).cell]; rfl
      go_wp2_with fail
      clear p0
      generalize gk = gko at *
      go_loopg [34] ts.length (fun gk i wr => ∃ (j : Nat) (ga gb : Int), Hid (j + gk = ts.length) ∧ i = .int .i64 (j : Int) ∧ Hid (Own w wr [(w.heap.size, #[.slice ta ts.length tc], 72), (w.heap.size + 1, #[.int .i64 ga, .int .i64 gb], 68)] ∧ Vr.prodR ((ts.map triple).drop j) (xs.drop j) (ga, gb) = res ∧ (-9223372036854775807 ≤ ga ∧ ga ≤ 9223372036854775807) ∧ (-9223372036854775807 ≤ gb ∧ gb ≤ 9223372036854775807)))
      case atStart => exact ⟨0, 1, 1, by show 0 + ts.length = ts.length; omega, rfl, T3.out, HP.out, by omega, by omega⟩
      case round =>
        obtain ⟨j, ga, gb, hj, rfl, HTT⟩ := hrel
        clear T3
        by_cases hjN : j < ts.length
        · have k1 : decide ((j : Int) < (ts.length : Int)) = true := decide_eq_true (by omega)
          have k2 : (0 : Int) ≤ j := by omega
          have k4 : (j : Int) < (ts.length : Int) := by omega
          have hjx : j < xs.length := by have := HL.out; omega
          have k3 : (j : Int) < (xs.length : Int) := by omega
          obtain ⟨T4, hpr, hga, hgb⟩ := HTT.out
          have T4 := Lib.hid T4
          obtain ⟨a3, rfl, -, cs3, -, hd0, hdj, rfl, ht1, ht2, ht3⟩ := (HT.out.mod RTent.stay T4.out.mod).at j hjN
          have c0 := hd0 (by decide)
          have c1 := hdj 1 (by decide) (by decide)
          have c2 := hdj 2 (by decide) (by decide)
          obtain ⟨a2, rfl, -, cs, -, hc0, hcj, rfl, hr, hi1, hi2⟩ := (HX.out.mod RRat.stay T4.out.mod).at j hjx
          have x0 := hc0 (by decide)
          have x1 := hcj 1 (by decide) (by decide)
          simp only [List.getElem?_cons_zero, List.getElem?_cons_succ] at c0 c1 c2 x0 x1
          unfold I64 at hi1 hi2 ht1 ht2 ht3
          have HU := Lib.hid (fun W => under_any _ _ _ _ _ W ht1 ht2 ht3 hi1 hi2)
          have HPR := prod_at (f := (ga, gb)) hjN hjx
          rw [hpr] at HPR
          have hui := fun (u : Int × Int) (hu : Vr.underR (ts[j]).start (ts[j]).peak (ts[j]).stop xs[j].1 xs[j].2 = some u) => under_in hu
          generalize Vr.underR (ts[j]).start (ts[j]).peak (ts[j]).stop xs[j].1 xs[j].2 = ur at *
          have x0' : ∀ W, Mod [] wr W → W.cell? (a2.add (j * 2)) = some (.int .i64 xs[j].1) := fun W m => cell_stays m x0
          have x1' : ∀ W, Mod [] wr W → W.cell? ⟨(a2.add (j * 2)).block, (a2.add (j * 2)).off + 1, none⟩ = some (.int .i64 xs[j].2) := fun W m => cell_stays m x1
          generalize xs[j].1 = xa' at *
          generalize xs[j].2 = xb at *
          generalize (ts[j]).start = t0 at *
          generalize (ts[j]).peak = t1 at *
          generalize (ts[j]).stop = t2 at *
          clear hi1 hi2 ht1 ht2 ht3 hr hd0 hdj hc0 hcj HTT x0 x1
          have T5 := Lib.hid (T4.out.alloc #[.int .i64 t0, .int .i64 t1, .int .i64 t2] 112)
          have mAl : Mod [] wr (wr.alloc (.cells #[.int .i64 t0, .int .i64 t1, .int .i64 t2] 112)) := (Mod.refl _ _).alloc _
          clear T4
          go_upto_region 13 with fail
          have X0 : ∀ W, Mod [] (wr.alloc (.cells #[.int .i64 t0, .int .i64 t1, .int .i64 t2] 112)) W → W.cell? (a2.add (j * 2)) = some (.int .i64 xa') := fun W m => x0' W (mAl.then m)
          have X1 : ∀ W, Mod [] (wr.alloc (.cells #[.int .i64 t0, .int .i64 t1, .int .i64 t2] 112)) W → W.cell? ⟨(a2.add (j * 2)).block, (a2.add (j * 2)).off + 1, none⟩ = some (.int .i64 xb) := fun W m => x1' W (mAl.then m)
          generalize wr.alloc (.cells #[.int .i64 t0, .int .i64 t1, .int .i64 t2] 112) = W5 at *
          generalize wr.heap.size = b8 at *
          clear c0 c1 c2 x0' x1' mAl
          have A1 := (T5.out.at 1 rfl).every
          have A2 := (T5.out.at 2 rfl).every
          cases ur with
          | none =>
            simp only at HPR
            subst HPR
            have HU' := Lib.hid (show ∀ W, Calls Try.prog 38 #[.agg #[.int .i64 t0, .int .i64 t1, .int .i64 t2], .agg #[.int .i64 xa', .int .i64 xb]] W fun e w' => e = .panicked [{ v := .iface 33 (.int .i64 3), recovered := false }] ∧ Mod [] W w' from HU.out)
            clear hpr hga hgb hui HU
            refine Dm.wp_region_doom [true, true, true, true, true, true, false, false, false, false, false, false] [] 6 (fun c _ => c = [{ v := .iface 33 (.int .i64 3), recovered := false }]) (by kernel_rfl) rfl rfl (by kernel_rfl) ?hAlD217 ?hQ ?mainD217
            case hAlD217 => (intro i hi; cases hi)
            case mainD217 =>
              simp only [pickM]
              iterate 6
               refine steady_go (a' := ?_) (by kernel_rfl) ?_ (fun w' hw' K Q hK => ?_) ?_
               rotate_left 2
               · go_wp2_with fail; exact hK _ (Mod.refl _ _)
               rotate_left
               · rfl
              refine steady_done ?_
              intro w' hw'
              go_wp2_with fail
              refine (HU'.out _).mono ?_
              rintro e w4 ⟨rfl, m4⟩
              go_wp2_with fail
              exact hw'.then m4
            case hQ =>
              intro c a' w' hG hm hc
              subst hc
              have s4 := hG.slot 4 (by kernel_rfl)
              have hd := hG.defers
              simp only [List.getElem?_toArray, List.getElem?_cons_succ, List.getElem?_cons_zero] at s4
              have T6 := Lib.hid (T5.out.call hm)
              simp only [Exit.inBlock, Exit.then]
              change bodyPostD _ _ _ _ _ _
              unfold bodyPostD
              simp only
              rw [hd]
              simp only
              refine leaves_cons (f := 33) (args := #[.pointer (some ⟨w.heap.size + 1, 0, none⟩)]) (by simp) (by simp [go_sem]) ?_
              refine (fac1_panic (w.heap.size + 1) _ _ _ _ [] _ (T6.out.at 1 rfl)).mono ?_
              rintro e u' w'' ⟨rfl, rfl, rfl⟩
              obtain ⟨r0, r1, M⟩ := told_end T6.out 1 rfl (.int .i64 0) (.int .i64 0)
              have HM := Lib.hid M
              generalize (w'.setCell ⟨w.heap.size + 1, 0, none⟩ (.int .i64 0)).setCell ⟨w.heap.size + 1, 1, none⟩ (.int .i64 0) = W9 at *
              simp [Leaves, settle, results, Try.results17, go_sem, r0, r1, s4]
              exact HM.out
          | some u =>
            obtain ⟨ua, ub⟩ := u
            have hin := hui (ua, ub) rfl
            have HU' := Lib.hid (show ∀ W, Calls Try.prog 38 #[.agg #[.int .i64 t0, .int .i64 t1, .int .i64 t2], .agg #[.int .i64 xa', .int .i64 xb]] W fun e w' => e = .returned (.agg #[.int .i64 ua, .int .i64 ub]) ∧ Mod [] W w' from HU.out)
            simp only at hin HPR
            have HMu := Lib.hid (fun W => mul_any ga gb ua ub W (by omega) (by omega) (by omega) (by omega))
            have hmi := mulR_in ga gb ua ub
            obtain ⟨⟨na, nb, nc⟩, hmv⟩ : ∃ t, Rat.mulR ga gb ua ub = t := ⟨_, rfl⟩
            rw [hmv] at HPR HMu hmi
            simp only at HPR hmi
            clear hpr hga hgb hui hin HU hmv
            cases nc with
            | false =>
              simp only [Bool.false_eq_true, if_false] at HPR
              subst HPR
              have HN := Lib.hid (fun W => must_no na nb W)
              refine Dm.wp_region_doom [true, true, true, true, true, true, true, true, true, true, false, false] [] 10 (fun c _ => c = [{ v := .iface 33 (.int .i64 3), recovered := false }]) (by kernel_rfl) rfl rfl (by kernel_rfl) ?hAlD295 ?hQ ?mainD295
              case hAlD295 => (intro i hi; cases hi)
              case mainD295 =>
                simp only [pickM]
                iterate 6
                 refine steady_go (a' := ?_) (by kernel_rfl) ?_ (fun w' hw' K Q hK => ?_) ?_
                 rotate_left 2
                 · go_wp2_with fail; exact hK _ (Mod.refl _ _)
                 rotate_left
                 · rfl
                refine steady_go (a' := ?_) (by kernel_rfl) ?_ (fun w' hw' K Q hK => ?_) ?_
                rotate_left 2
                · go_wp2_with fail
                  refine ((calls_mod HU'.out) _ hw').mono ?_
                  rintro e w'' ⟨rfl, m''⟩
                  go_wp2_with fail
                  exact hK _ m''
                rotate_left
                · rfl
                refine steady_go (a' := ?_) (by kernel_rfl) ?_ (fun w' hw' K Q hK => ?_) ?_
                rotate_left 2
                · go_wp2_with fail
                  refine ((calls_mod HMu.out) _ hw').mono ?_
                  rintro e w'' ⟨rfl, m''⟩
                  go_wp2_with fail
                  exact hK _ m''
                rotate_left
                · rfl
                iterate 2
                 refine steady_go (a' := ?_) (by kernel_rfl) ?_ (fun w' hw' K Q hK => ?_) ?_
                 rotate_left 2
                 · go_wp2_with fail; exact hK _ (Mod.refl _ _)
                 rotate_left
                 · rfl
                refine steady_done ?_
                intro w' hw'
                go_wp2_with fail
                refine (HN.out _).mono ?_
                rintro e w4 ⟨rfl, m4⟩
                go_wp2_with fail
                exact hw'.then m4
              case hQ =>
                intro c a' w' hG hm hc
                subst hc
                have s4 := hG.slot 4 (by kernel_rfl)
                have hd := hG.defers
                simp only [List.getElem?_toArray, List.getElem?_cons_succ, List.getElem?_cons_zero] at s4
                have T6 := Lib.hid (T5.out.call hm)
                simp only [Exit.inBlock, Exit.then]
                change bodyPostD _ _ _ _ _ _
                unfold bodyPostD
                simp only
                rw [hd]
                simp only
                refine leaves_cons (f := 33) (args := #[.pointer (some ⟨w.heap.size + 1, 0, none⟩)]) (by simp) (by simp [go_sem]) ?_
                refine (fac1_panic (w.heap.size + 1) _ _ _ _ [] _ (T6.out.at 1 rfl)).mono ?_
                rintro e u' w'' ⟨rfl, rfl, rfl⟩
                obtain ⟨r0, r1, M⟩ := told_end T6.out 1 rfl (.int .i64 0) (.int .i64 0)
                have HM := Lib.hid M
                generalize (w'.setCell ⟨w.heap.size + 1, 0, none⟩ (.int .i64 0)).setCell ⟨w.heap.size + 1, 1, none⟩ (.int .i64 0) = W9 at *
                simp [Leaves, settle, results, Try.results17, go_sem, r0, r1, s4]
                exact HM.out
            | true =>
              simp only [if_true] at HPR
              have HNX := Lib.hid (And.intro HPR.symm hmi)
              have HMm := Lib.hid (fun W => must_ok na nb W)
              clear HPR hmi
              refine wp_region_mask 11 [true, true, true, true, true, true, true, true, true, true, true] [] (by kernel_rfl) (by kernel_rfl) (by simp) ?_
              simp only [pickM]
              iterate 6
               refine steady_go (a' := ?_) (by kernel_rfl) ?_ (fun w' hw' K Q hK => ?_) ?_
               rotate_left 2
               · go_wp2_with fail; exact hK _ (Mod.refl _ _)
               rotate_left
               · rfl
              refine steady_go (a' := ?_) (by kernel_rfl) ?_ (fun w' hw' K Q hK => ?_) ?_
              rotate_left 2
              · go_wp2_with fail
                refine ((calls_mod HU'.out) _ hw').mono ?_
                rintro e w'' ⟨rfl, m''⟩
                go_wp2_with fail
                exact hK _ m''
              rotate_left
              · rfl
              refine steady_go (a' := ?_) (by kernel_rfl) ?_ (fun w' hw' K Q hK => ?_) ?_
              rotate_left 2
              · go_wp2_with fail
                refine ((calls_mod HMu.out) _ hw').mono ?_
                rintro e w'' ⟨rfl, m''⟩
                go_wp2_with fail
                exact hK _ m''
              rotate_left
              · rfl
              iterate 2
               refine steady_go (a' := ?_) (by kernel_rfl) ?_ (fun w' hw' K Q hK => ?_) ?_
               rotate_left 2
               · go_wp2_with fail; exact hK _ (Mod.refl _ _)
               rotate_left
               · rfl
              refine steady_go (a' := ?_) (by kernel_rfl) ?_ (fun w' hw' K Q hK => ?_) ?_
              rotate_left 2
              · go_wp2_with fail
                refine ((calls_mod HMm.out) _ hw').mono ?_
                rintro e w'' ⟨rfl, m''⟩
                go_wp2_with fail
                exact hK _ m''
              rotate_left
              · rfl
              refine steady_done ?_
              refine lates_end (fun w' hw' _ => ?_)
              simp only [List.drop_succ_cons, List.drop_zero]
              have T6 := Lib.hid (T5.out.call hw')
              clear A1 A2 X0 X1 hw' T5 HU' HMu HMm
              have T7 := Lib.hid (Own.left (l := [(w.heap.size, #[.slice (some a3) ts.length tc], 72), (w.heap.size + 1, #[.int .i64 na, .int .i64 nb], 68)]) (l' := [(b8, #[.int .i64 t0, .int .i64 t1, .int .i64 t2], 112)]) ((T6.out.set 1 rfl 0 (.int .i64 na)).set 1 rfl 1 (.int .i64 nb)))
              obtain ⟨q0, q1, z0, z1⟩ := (T6.out.at 1 rfl).two
              go_upto_region 14 with fail
              generalize (w'.setCell ⟨w.heap.size + 1, 0, none⟩ (.int .i64 na)).setCell ⟨w.heap.size + 1, 1, none⟩ (.int .i64 nb) = W7 at *
              clear q0 q1 z0 z1 T6
              have e1 : IntKind.i64.wrap ((j : Int) + 1) = (j : Int) + 1 := IntWalk.i64_in _ (by have := HN.out; omega)
              go_wp2_with fail
              go_roundg (gk - 1)
              case measure => have := hj.out; omega
              case rel => exact ⟨j + 1, na, nb, by have := hj.out; show j + 1 + (gk - 1) = ts.length; omega, by rw [Int.natCast_add]; rfl, T7.out, HNX.out.1, HNX.out.2.1, HNX.out.2.2⟩
        · have hjN' : j = ts.length := by have := hj.out; omega
          subst hjN'
          have k1 : decide ((ts.length : Int) < (ts.length : Int)) = false := decide_eq_false (by omega)
          obtain ⟨T4, hpr, hga, hgb⟩ := HTT.out
          have T4 := Lib.hid T4
          have hfin : res = some (ga, gb) := by
            rw [← hpr, List.drop_eq_nil_of_le (by simp)]
            unfold Vr.prodR
            rfl
          subst hfin
          clear hpr hga hgb HTT
          obtain ⟨q0, q1, z0, z1⟩ := (T4.out.at 1 rfl).two
          go_wp2_with fail
          obtain ⟨r0, r1, M⟩ := told_end T4.out 1 rfl (.int .i64 ga) (.int .i64 gb)
          have HM := Lib.hid M
          clear M z0 z1 q0 q1 T4
          generalize (wr.setCell ⟨w.heap.size + 1, 0, none⟩ (.int .i64 ga)).setCell ⟨w.heap.size + 1, 1, none⟩ (.int .i64 gb) = W9 at *
          refine leaves_cons (f := 33) (args := #[.pointer (some ⟨w.heap.size + 1, 0, none⟩)]) (by simp) (by simp [go_sem]) ?_
          refine (fac1_idle _ _).mono ?_
          rintro e u' w'' ⟨rfl, rfl, rfl⟩
          simp [Leaves, settle, results, Try.results17, go_sem, r0, r1]
          exact HM.out
end Go.Proofs.Ytaloembfekdkoaa

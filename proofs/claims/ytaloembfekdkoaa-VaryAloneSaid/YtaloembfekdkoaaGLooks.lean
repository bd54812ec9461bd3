/-
  vary: rows, rows of rows copied.
  vary: lookups, copied.
  vary: features, copied.
  vary: Font, in plain lists; a row that is being filled.
-/
import Derived.Test.YtaloembfekdkoaaVaryCopy
import Derived.Test.YtaloembfekdkoaaGTop

namespace Go.Proofs.Ytaloembfekdkoaa
open Go.RowKit
set_option linter.unusedVariables false
set_option maxRecDepth 100000
theorem Try.rowsinfo_Int : (Try.prog.info? 29).map (fun i => (i.zero, i.size, i.bytes)) = some (some (.slice none 0 0), 1, 24) := by kernel_rfl
set_option maxHeartbeats 1000000 in
theorem rows_Int (v : Value) (l : List (List Int)) (B : Nat) (w : World) (h : Rows 1 RSet B w v l) (hl : l.length * 24 ≤ 140737488351232) (hll : ∀ x ∈ l, x.length * 8 ≤ 140737488351232) :
    Calls Try.prog 30 #[v] w fun e w' => ∃ u, e = .returned u ∧ Mod [] w w' ∧ Rows 1 RSet w.heap.size w' u l := by
  obtain ⟨oa, cap, rfl, hm⟩ := h.form
  obtain ⟨i0, hi, hz0, hz1, hz2⟩ := info_parts Try.rowsinfo_Int
  have hmk := fun W => run_make (P := Try.prog) W 100 29 i0 (.slice none 0 0) Try.underlying100 hi hz0 .i64 .i64 (l.length : Int) (l.length : Int) (by omega) (by omega) (by rw [hz2]; omega) (by omega)
  rw [hz1] at hmk
  simp only [Int.toNat_natCast] at hmk
  generalize hmc : madeCells (Value.slice none 0 0).cells (l.length * 1) = mc at hmk
  have HSZ : Hid (mc.size = l.length * 1) := by rw [← hmc]; exact size_made _ _
  have HR := Lib.hid h
  have HL := Lib.hid (And.intro hl (And.intro hll hm))
  clear h hl hll hmc hm
  go_enter Try.func30, Try.ntmps30
  go_upto_region 3 with fail
  have F := Lib.hid (Fill.start (k := 1) (R := RSet) (B := w.heap.size + 1) (l := l) (Blk.new w mc 29) HSZ.out)
  have M := Lib.hid ((Mod.refl [] w).alloc (.cells mc 29))
  generalize w.alloc (.cells mc 29) = W0 at *
  clear hmk HSZ
  go_loopg [10] l.length (fun gk s10 wr => ∃ i : Nat, s10 = .int .i64 (i : Int) ∧ Hid (i + gk = l.length) ∧ Hid (Mod [] w wr ∧ w.heap.size < wr.heap.size ∧ Fill 1 RSet (w.heap.size + 1) wr w.heap.size 29 l i))
  case atStart => exact ⟨0, rfl, by show 0 + l.length = l.length; omega, M.out, by obtain ⟨c, B, _⟩ := F.out; exact B.lt, F.out⟩
  case round =>
    obtain ⟨i, rfl, hi, HV⟩ := hrel
    clear F M
    by_cases hn : i = l.length
    · subst hn
      go_wp2_with fail
      go_ret
      exact ⟨_, rfl, HV.out.1, HV.out.2.2.done RSet.lower HL.out.2.2 (Nat.le_refl _) (by omega)⟩
    · have hlt : i < l.length := by have := hi.out; omega
      have hlt2 : (i : Int) < (l.length : Int) := by omega
      have h0 : (0 : Int) ≤ (i : Int) := by omega
      obtain ⟨a, rfl, hB, cs, hk, hc0, -, rv, rfl, hrv⟩ := (HR.out.mod RSet.stay HV.out.1).at i hlt
      have c0 : wr.cell? (a.add (i * 1)) = some rv := hc0 (by decide)
      rw [Nat.mul_one] at c0
      obtain ⟨pa, pc, rfl, hpm⟩ := hrv.form
      have HC := Lib.hid (copy_Int _ _ _ wr hrv (HL.out.2.1 _ (List.getElem_mem hlt)))
      have HRV := Lib.hid hrv
      have e1 : IntKind.i64.wrap ((i : Int) + 1) = (i : Int) + 1 := IntWalk.i64_in _ (by have := HL.out.1; omega)
      clear hrv hB hk hc0 hn
      go_wp2_with fail
      refine HC.out.mono ?_
      intro e w1 hcr
      obtain ⟨u, rfl, m1, hu⟩ := copied_Int HRV.out hcr
      have HU := Lib.hid hu
      have HV1 := Lib.hid (And.intro (HV.out.1.then m1) (And.intro (Nat.lt_of_lt_of_le HV.out.2.1 m1.size) (HV.out.2.2.mod RSet.stay m1)))
      obtain ⟨oldv, q0, q1⟩ := HV1.out.2.2.cell (q := i) (by omega)
      obtain ⟨ua, uc, rfl, hum⟩ := hu.form
      clear hcr m1 hu HC HRV hum hpm
      go_wp2_with fail
      have HF := Lib.hid (HV1.out.2.2.set1 RSet.stay hlt (v := .slice ua (l[i]).length uc) ⟨_, rfl, HU.out.lower RInt.lower (Nat.succ_le_of_lt HV.out.2.1)⟩ (Nat.lt_succ_self _))
      have HM := Lib.hid (HV1.out.1.setNew (p := ⟨w.heap.size, i, none⟩) (Nat.le_refl _) (.slice ua (l[i]).length uc))
      go_roundg (gk - 1)
      case measure => have := hi.out; omega
      case rel =>
        refine ⟨i + 1, by rw [Int.natCast_add]; rfl, ?_, HM.out, ?_, HF.out⟩
        · have := hi.out; show i + 1 + (gk - 1) = l.length; omega
        · rw [setCell_size]; exact HV1.out.2.1
theorem Try.rowsinfo_Ins : (Try.prog.info? 42).map (fun i => (i.zero, i.size, i.bytes)) = some (some (.slice none 0 0), 1, 24) := by kernel_rfl
set_option maxHeartbeats 1000000 in
theorem rows_Ins (v : Value) (l : List (List DIns)) (B : Nat) (w : World) (h : Rows 1 RCode B w v l) (hl : l.length * 24 ≤ 140737488351232) (hll : ∀ x ∈ l, x.length * 16 ≤ 140737488351232) :
    Calls Try.prog 14 #[v] w fun e w' => ∃ u, e = .returned u ∧ Mod [] w w' ∧ Rows 1 RCode w.heap.size w' u l := by
  obtain ⟨oa, cap, rfl, hm⟩ := h.form
  obtain ⟨i0, hi, hz0, hz1, hz2⟩ := info_parts Try.rowsinfo_Ins
  have hmk := fun W => run_make (P := Try.prog) W 28 42 i0 (.slice none 0 0) Try.underlying28 hi hz0 .i64 .i64 (l.length : Int) (l.length : Int) (by omega) (by omega) (by rw [hz2]; omega) (by omega)
  rw [hz1] at hmk
  simp only [Int.toNat_natCast] at hmk
  generalize hmc : madeCells (Value.slice none 0 0).cells (l.length * 1) = mc at hmk
  have HSZ : Hid (mc.size = l.length * 1) := by rw [← hmc]; exact size_made _ _
  have HR := Lib.hid h
  have HL := Lib.hid (And.intro hl (And.intro hll hm))
  clear h hl hll hmc hm
  go_enter Try.func14, Try.ntmps14
  go_upto_region 3 with fail
  have F := Lib.hid (Fill.start (k := 1) (R := RCode) (B := w.heap.size + 1) (l := l) (Blk.new w mc 42) HSZ.out)
  have M := Lib.hid ((Mod.refl [] w).alloc (.cells mc 42))
  generalize w.alloc (.cells mc 42) = W0 at *
  clear hmk HSZ
  go_loopg [10] l.length (fun gk s10 wr => ∃ i : Nat, s10 = .int .i64 (i : Int) ∧ Hid (i + gk = l.length) ∧ Hid (Mod [] w wr ∧ w.heap.size < wr.heap.size ∧ Fill 1 RCode (w.heap.size + 1) wr w.heap.size 42 l i))
  case atStart => exact ⟨0, rfl, by show 0 + l.length = l.length; omega, M.out, by obtain ⟨c, B, _⟩ := F.out; exact B.lt, F.out⟩
  case round =>
    obtain ⟨i, rfl, hi, HV⟩ := hrel
    clear F M
    by_cases hn : i = l.length
    · subst hn
      go_wp2_with fail
      go_ret
      exact ⟨_, rfl, HV.out.1, HV.out.2.2.done RCode.lower HL.out.2.2 (Nat.le_refl _) (by omega)⟩
    · have hlt : i < l.length := by have := hi.out; omega
      have hlt2 : (i : Int) < (l.length : Int) := by omega
      have h0 : (0 : Int) ≤ (i : Int) := by omega
      obtain ⟨a, rfl, hB, cs, hk, hc0, -, rv, rfl, hrv⟩ := (HR.out.mod RCode.stay HV.out.1).at i hlt
      have c0 : wr.cell? (a.add (i * 1)) = some rv := hc0 (by decide)
      rw [Nat.mul_one] at c0
      obtain ⟨pa, pc, rfl, hpm⟩ := hrv.form
      have HC := Lib.hid (copy_Ins _ _ _ wr hrv (HL.out.2.1 _ (List.getElem_mem hlt)))
      have HRV := Lib.hid hrv
      have e1 : IntKind.i64.wrap ((i : Int) + 1) = (i : Int) + 1 := IntWalk.i64_in _ (by have := HL.out.1; omega)
      clear hrv hB hk hc0 hn
      go_wp2_with fail
      refine HC.out.mono ?_
      intro e w1 hcr
      obtain ⟨u, rfl, m1, hu⟩ := copied_Ins HRV.out hcr
      have HU := Lib.hid hu
      have HV1 := Lib.hid (And.intro (HV.out.1.then m1) (And.intro (Nat.lt_of_lt_of_le HV.out.2.1 m1.size) (HV.out.2.2.mod RCode.stay m1)))
      obtain ⟨oldv, q0, q1⟩ := HV1.out.2.2.cell (q := i) (by omega)
      obtain ⟨ua, uc, rfl, hum⟩ := hu.form
      clear hcr m1 hu HC HRV hum hpm
      go_wp2_with fail
      have HF := Lib.hid (HV1.out.2.2.set1 RCode.stay hlt (v := .slice ua (l[i]).length uc) ⟨_, rfl, HU.out.lower RIns.lower (Nat.succ_le_of_lt HV.out.2.1)⟩ (Nat.lt_succ_self _))
      have HM := Lib.hid (HV1.out.1.setNew (p := ⟨w.heap.size, i, none⟩) (Nat.le_refl _) (.slice ua (l[i]).length uc))
      go_roundg (gk - 1)
      case measure => have := hi.out; omega
      case rel =>
        refine ⟨i + 1, by rw [Int.natCast_add]; rfl, ?_, HM.out, ?_, HF.out⟩
        · have := hi.out; show i + 1 + (gk - 1) = l.length; omega
        · rw [setCell_size]; exact HV1.out.2.1
end Go.Proofs.Ytaloembfekdkoaa

namespace Go.Proofs.Ytaloembfekdkoaa
open Go.RowKit
set_option linter.unusedVariables false
set_option maxRecDepth 100000
theorem Try.lookinfo : (Try.prog.info? 99).map (fun i => (i.zero, i.size, i.bytes)) = some (some (.agg #[.int .i64 0, .bool false, .slice none 0 0]), 3, 40) := by kernel_rfl
theorem Try.ruleinfo : (Try.prog.info? 103).map (fun i => (i.zero, i.size, i.bytes)) = some (some (.agg #[.slice none 0 0, .slice none 0 0, .slice none 0 0, .slice none 0 0, .slice none 0 0, .int .i64 0]), 6, 128) := by kernel_rfl
def RuleSmall (r : DRule) : Prop := (r.back.length * 24 ≤ 140737488351232 ∧ ∀ x ∈ r.back, x.length * 8 ≤ 140737488351232) ∧ (r.ins.length * 24 ≤ 140737488351232 ∧ ∀ x ∈ r.ins, x.length * 8 ≤ 140737488351232) ∧ (r.ahead.length * 24 ≤ 140737488351232 ∧ ∀ x ∈ r.ahead, x.length * 8 ≤ 140737488351232) ∧ r.out.length * 8 ≤ 140737488351232 ∧ r.calls.length * 16 ≤ 140737488351232
theorem rows_Int_f (v : Value) (l : List (List Int)) (B B0 : Nat) (w : World) (h : Rows 1 RSet B w v l) (hl : l.length * 24 ≤ 140737488351232 ∧ ∀ x ∈ l, x.length * 8 ≤ 140737488351232) (hB : B0 ≤ w.heap.size) :
    Calls Try.prog 30 #[v] w fun e w' => ∃ u, e = .returned u ∧ FRows 1 RSet B0 l u w' ∧ Mod [] w w' :=
  (rows_Int v l B w h hl.1 hl.2).mono fun e w' ⟨u, he, m, hr⟩ => ⟨u, he, hr.lower RSet.lower hB, m⟩
set_option maxHeartbeats 8000000 in
theorem lookups_any (v : Value) (l : List DLookup) (B : Nat) (w : World) (h : Rows 3 RLookup B w v l) (hl : l.length * 40 ≤ 140737488351232) (hll : ∀ x ∈ l, x.rules.length * 128 ≤ 140737488351232 ∧ ∀ r ∈ x.rules, RuleSmall r) :
    Calls Try.prog 12 #[v] w fun e w' => ∃ u, e = .returned u ∧ Mod [] w w' ∧ Rows 3 RLookup w.heap.size w' u l := by
  obtain ⟨oa, cap, rfl, hm⟩ := h.form
  obtain ⟨i0, hi, hz0, hz1, hz2⟩ := info_parts Try.lookinfo
  have hmk := fun W => run_make (P := Try.prog) W 24 99 i0 (.agg #[.int .i64 0, .bool false, .slice none 0 0]) Try.underlying24 hi hz0 .i64 .i64 (l.length : Int) (l.length : Int) (by omega) (by omega) (by rw [hz2]; omega) (by omega)
  rw [hz1] at hmk
  simp only [Int.toNat_natCast] at hmk
  generalize hmc : madeCells (Value.agg #[.int .i64 0, .bool false, .slice none 0 0]).cells (l.length * 3) = mc at hmk
  have HSZ : Hid (mc.size = l.length * 3) := by rw [← hmc]; exact size_made _ _
  have HR := Lib.hid h
  have HL := Lib.hid (And.intro hl (And.intro hll hm))
  clear h hl hll hmc hm
  go_enter Try.func12, Try.ntmps12
  go_upto_region 3 with fail
  have F := Lib.hid (Fill.start (k := 3) (R := RLookup) (B := w.heap.size + 1) (l := l) (Blk.new w mc 99) HSZ.out)
  have M := Lib.hid ((Mod.refl [] w).alloc (.cells mc 99))
  generalize w.alloc (.cells mc 99) = W0 at *
  clear hmk HSZ hi hz0 hz1 hz2 i0
  go_loopg [13] l.length (fun gk s13 wr => ∃ i : Nat, s13 = .int .i64 (i : Int) ∧ Hid (i + gk = l.length) ∧ Hid (Mod [] w wr ∧ w.heap.size < wr.heap.size ∧ Fill 3 RLookup (w.heap.size + 1) wr w.heap.size 99 l i))
  case atStart => exact ⟨0, rfl, by show 0 + l.length = l.length; omega, M.out, by obtain ⟨c, B, _⟩ := F.out; exact B.lt, F.out⟩
  case round =>
    obtain ⟨i, rfl, hi, HV⟩ := hrel
    clear F M
    by_cases hn : i = l.length
    · subst hn
      go_wp2_with fail
      go_ret
      exact ⟨_, rfl, HV.out.1, HV.out.2.2.done RLookup.lower HL.out.2.2 (Nat.le_refl _) (by omega)⟩
    · have hlt : i < l.length := by have := hi.out; omega
      have hlt2 : (i : Int) < (l.length : Int) := by omega
      have h0 : (0 : Int) ≤ (i : Int) := by omega
      obtain ⟨a, rfl, hB, cs, hk, hc0, hcj, rv, rfl, hki, hrv⟩ := HR.out.at i hlt
      have c0 := hc0 (by decide)
      have c1 := hcj 1 (by decide) (by decide)
      have c2 := hcj 2 (by decide) (by decide)
      simp only [List.getElem?_cons_zero, List.getElem?_cons_succ] at c0 c1 c2
      have c0 := cell_stays HV.out.1 c0
      have c1 := cell_stays HV.out.1 c1
      have c2 := cell_stays HV.out.1 c2
      obtain ⟨pa, pc, rfl, hpm⟩ := hrv.form
      have HRV := Lib.hid hrv
      have HKI := Lib.hid hki
      have HLL := Lib.hid (HL.out.2.1 _ (List.getElem_mem hlt))
      have e1 : IntKind.i64.wrap ((i : Int) + 1) = (i : Int) + 1 := IntWalk.i64_in _ (by have := HL.out.1; omega)
      have HDX : Hid (l[i] = ⟨(l[i]).kind, (l[i]).ignore, (l[i]).rules⟩) := rfl
      generalize (l[i]).kind = kd at *
      generalize (l[i]).ignore = ig at *
      generalize (l[i]).rules = rs at *
      clear hrv hB hk hc0 hcj hn hki
      have T := Lib.hid (((Own.start w).call HV.out.1).alloc #[.int .i64 kd, .bool ig, .slice pa rs.length pc] 99)
      have HV1 := Lib.hid (HV.out.2.2.mod RLookup.stay ((Mod.refl _ _).alloc (.cells #[.int .i64 kd, .bool ig, .slice pa rs.length pc] 99)))
      have HSZ : Hid (w.heap.size < wr.heap.size) := HV.out.2.1
      obtain ⟨j0, hj, hy0, hy1, hy2⟩ := info_parts Try.ruleinfo
      have hmk := fun W => run_make (P := Try.prog) W 97 103 j0 (.agg #[.slice none 0 0, .slice none 0 0, .slice none 0 0, .slice none 0 0, .slice none 0 0, .int .i64 0]) Try.underlying97 hj hy0 .i64 .i64 (rs.length : Int) (rs.length : Int) (by omega) (by omega) (by rw [hy2]; have := HLL.out.1; omega) (by have := HLL.out.1; omega)
      rw [hy1] at hmk
      simp only [Int.toNat_natCast] at hmk
      generalize hmc : madeCells (Value.agg #[.slice none 0 0, .slice none 0 0, .slice none 0 0, .slice none 0 0, .slice none 0 0, .int .i64 0]).cells (rs.length * 6) = mc at hmk
      have HSM : Hid (mc.size = rs.length * 6) := by rw [← hmc]; exact size_made _ _
      clear hmc hj hy0 hy1 hy2 j0
      go_upto_region 5 with fail
      generalize wr.alloc (.cells #[.int .i64 kd, .bool ig, .slice pa rs.length pc] 99) = W1 at *
      generalize wr.heap.size = b5 at *
      clear c0 c1 c2 HV
      have A0 := (T.out.at 0 rfl).every
      refine Sq.wp_region_toks 11 [(0, none), (1, none), (2, none), (3, none), (4, none), (5, none), (6, none), (7, none), (8, none), (9, some (NewSl W1.heap.size mc 103 rs.length)), (10, none)] (by kernel_rfl) (by kernel_rfl) (Sq.nodup_of (by kernel_rfl)) ?hTS79 ?mainS79
      case hTS79 =>
        intro p hp T hT v
        simp only [List.mem_cons, List.not_mem_nil, or_false] at hp
        rcases hp with rfl | rfl | rfl | rfl | rfl | rfl | rfl | rfl | rfl | rfl | rfl <;> first | (cases hT; done) | (cases hT; first | exact NewSl.stays _ _ _ _ _)
      refine Sq.v_go (a' := ?_) rfl (by kernel_rfl) ?_ (fun w' hw' K Q hK => ?_) ?_
      rotate_left 2
      · go_wp2_with fail; exact hK _ (Mod.refl _ _)
      rotate_left
      · rfl
      refine Sq.v_go (a' := ?_) rfl (by kernel_rfl) ?_ (fun w' hw' K Q hK => ?_) ?_
      rotate_left 2
      · go_wp2_with fail; exact hK _ (Mod.refl _ _)
      rotate_left
      · rfl
      refine Sq.v_go (a' := ?_) rfl (by kernel_rfl) ?_ (fun w' hw' K Q hK => ?_) ?_
      rotate_left 2
      · go_wp2_with fail; exact hK _ (Mod.refl _ _)
      rotate_left
      · rfl
      refine Sq.v_go (a' := ?_) rfl (by kernel_rfl) ?_ (fun w' hw' K Q hK => ?_) ?_
      rotate_left 2
      · go_wp2_with fail; exact hK _ (Mod.refl _ _)
      rotate_left
      · rfl
      refine Sq.v_go (a' := ?_) rfl (by kernel_rfl) ?_ (fun w' hw' K Q hK => ?_) ?_
      rotate_left 2
      · go_wp2_with fail; exact hK _ (Mod.refl _ _)
      rotate_left
      · rfl
      refine Sq.v_go (a' := ?_) rfl (by kernel_rfl) ?_ (fun w' hw' K Q hK => ?_) ?_
      rotate_left 2
      · go_wp2_with fail; exact hK _ (Mod.refl _ _)
      rotate_left
      · rfl
      refine Sq.v_go (a' := ?_) rfl (by kernel_rfl) ?_ (fun w' hw' K Q hK => ?_) ?_
      rotate_left 2
      · go_wp2_with fail; exact hK _ (Mod.refl _ _)
      rotate_left
      · rfl
      refine Sq.v_go (a' := ?_) rfl (by kernel_rfl) ?_ (fun w' hw' K Q hK => ?_) ?_
      rotate_left 2
      · go_wp2_with fail; exact hK _ (Mod.refl _ _)
      rotate_left
      · rfl
      refine Sq.v_go (a' := ?_) rfl (by kernel_rfl) ?_ (fun w' hw' K Q hK => ?_) ?_
      rotate_left 2
      · go_wp2_with fail; exact hK _ (Mod.refl _ _)
      rotate_left
      · rfl
      refine Sq.k_go (f := ?_) rfl rfl (fun v => by simp only [Act.put]; (try simp only [List.setIfInBounds_toArray]); (try simp only [List.set_cons_succ, List.set_cons_zero]); exact rfl) (fun w' hw' hF K Q hK => ?_) (fun kv9 hkv9 => ?_)
      · clear hF
        go_wp2_with fail
        exact hK _ _ ((Mod.refl _ _).alloc _) (⟨_, rfl, hw'.size, Blk.new _ _ _⟩)
      obtain ⟨_, -, b2, rfl, -, -⟩ := hkv9
      refine Sq.v_go (a' := ?_) rfl (by kernel_rfl) ?_ (fun w' hw' K Q hK => ?_) ?_
      rotate_left 2
      · go_wp2_with fail; exact hK _ (Mod.refl _ _)
      rotate_left
      · rfl
      refine Sq.nil_go ?_
      intro w' hw' hF
      simp only [List.drop_succ_cons, List.drop_zero]
      obtain ⟨-, b2', hb2e, hb2, B2⟩ := hF
      obtain rfl : b2 = b2' := by simpa using hb2e
      have T2 := Lib.hid (T.out.call hw')
      have F2 := Lib.hid (HV1.out.mod RLookup.stay hw')
      have hs1 : w.heap.size + 1 ≤ W1.heap.size := by have := (T.out.at 0 rfl).lt; have := HSZ.out; omega
      have hs2 : b5 < W1.heap.size := (T.out.at 0 rfl).lt
      obtain ⟨o0, q0, q1⟩ := F2.out.cell (q := i * 3) (by omega)
      obtain ⟨o1, q2, q3⟩ := F2.out.cell (q := i * 3 + 1) (by omega)
      obtain ⟨o2, q4, q5⟩ := F2.out.cell (q := i * 3 + 2) (by omega)
      have HB2 := Lib.hid B2
      have HW := Lib.hid hw'
      clear hb2e B2 hw' A0 T hmk
      go_upto_region 6 with fail
      have XF : (((w'.setCell ⟨w.heap.size, i * 3, none⟩ (.int .i64 kd)).setCell ⟨w.heap.size, i * 3 + 1, none⟩ (.bool ig)).setCell ⟨w.heap.size, i * 3 + 2, none⟩ (.slice (some ⟨b2, 0, none⟩) rs.length rs.length)) = setN w' (w.heap.size) (i * 3) [.int .i64 kd, .bool ig, .slice (some ⟨b2, 0, none⟩) rs.length rs.length] := rfl
      rw [XF]
      clear XF
      obtain ⟨c, cB, cs, c3⟩ := HV1.out
      have HC := Lib.hid (And.intro cs c3)
      have cB2 := cB.kept HW.out (by simp)
      have M3 := Lib.hid (setN_mod (w0 := w) (b := w.heap.size) (Nat.le_refl _) [.int .i64 kd, .bool ig, .slice (some ⟨b2, 0, none⟩) rs.length rs.length] (i * 3) w' T2.out.mod)
      have A3 := Lib.hid (((HW.out.above (w.heap.size + 1)).then HW.out.size (setN_above (b := w.heap.size) (Nat.lt_succ_self _) [.int .i64 kd, .bool ig, .slice (some ⟨b2, 0, none⟩) rs.length rs.length] (i * 3) w')))
      have C3 := Lib.hid (setN_blk [.int .i64 kd, .bool ig, .slice (some ⟨b2, 0, none⟩) rs.length rs.length] (i * 3) w' c cB2)
      have D3 := Lib.hid (show Blk (setN w' w.heap.size (i * 3) [.int .i64 kd, .bool ig, .slice (some ⟨b2, 0, none⟩) rs.length rs.length]) b5 #[.int .i64 kd, .bool ig, .slice pa rs.length pc] 99 from (setN_other (by have := HSZ.out; omega) _ _ _).trans (T2.out.at 0 rfl))
      have E3 := Lib.hid (show Blk (setN w' w.heap.size (i * 3) [.int .i64 kd, .bool ig, .slice (some ⟨b2, 0, none⟩) rs.length rs.length]) b2 mc 103 from (setN_other (by omega) _ _ _).trans HB2.out)
      have S3 := Lib.hid (show w'.heap.size ≤ (setN w' w.heap.size (i * 3) [.int .i64 kd, .bool ig, .slice (some ⟨b2, 0, none⟩) rs.length rs.length]).heap.size by rw [setN_size]; exact Nat.le_refl _)
      have cell2 : (putN c (i * 3) [.int .i64 kd, .bool ig, .slice (some ⟨b2, 0, none⟩) rs.length rs.length])[i * 3 + 2]? = some (.slice (some ⟨b2, 0, none⟩) rs.length rs.length) := by
        rw [putN_in _ _ 2 _ (by simp) (by rw [cs]; show i * 3 + 3 ≤ l.length * 3; omega)]; rfl
      have HCC := Lib.hid cell2
      generalize hpc : putN c (i * 3) [.int .i64 kd, .bool ig, .slice (some ⟨b2, 0, none⟩) rs.length rs.length] = pc3 at *
      have HPC := Lib.hid hpc
      generalize setN w' w.heap.size (i * 3) [.int .i64 kd, .bool ig, .slice (some ⟨b2, 0, none⟩) rs.length rs.length] = W3 at *
      have F3 := Lib.hid (Fill.start (k := 6) (R := RRule) (B := b2 + 1) (l := rs) E3.out HSM.out)
      have d2 : W3.cell? ⟨b5, 2, none⟩ = some (.slice pa rs.length pc) := D3.out.cell 2
      clear q0 q1 q2 q3 q4 q5 cB cs c3 cB2 cell2 hpc E3 HSM HB2
      go_wp2_with fail
      clear d2
      generalize gk = gko at *
      go_loopg [33] rs.length (fun gk2 s33 w2 => ∃ j : Nat, s33 = .int .i64 (j : Int) ∧ Hid (j + gk2 = rs.length) ∧ Hid (Mod [] w w2 ∧ Above (w.heap.size + 1) W1 w2 ∧ W1.heap.size ≤ w2.heap.size ∧ b2 < w2.heap.size ∧ Blk w2 w.heap.size pc3 99 ∧ Fill 6 RRule (b2 + 1) w2 b2 103 rs j))
      case atStart =>
        refine ⟨0, rfl, by show 0 + rs.length = rs.length; omega, M3.out, A3.out, Nat.le_trans HW.out.size S3.out, ?_, C3.out, F3.out⟩
        obtain ⟨_, B, _⟩ := F3.out
        exact B.lt
      case round =>
        obtain ⟨j, rfl, hj, HI⟩ := hrel
        clear M3 A3 C3 D3 S3 F3
        by_cases hjn : j = rs.length
        · subst hjn
          go_wp2_with fail
          obtain ⟨g1, g2, g3, g4, g5, g6⟩ := HI.out
          have HFN := Lib.hid (Fill.after (k := 3) (R := RLookup) (B := w.heap.size + 1) (t := 99) (b := w.heap.size) (i := i) (cs := [.int .i64 kd, .bool ig, .slice (some ⟨b2, 0, none⟩) rs.length rs.length]) RLookup.stay HC.out.1 HC.out.2 hlt g2 (by rw [HPC.out]; exact g5) rfl (by
            rw [HDX.out]
            exact ⟨_, rfl, HKI.out, g6.done RRule.lower (by have := HLL.out.1; have : (140737488351232 : Nat) ≤ maxLen := by decide
                                                            omega) (by omega) (by omega)⟩))
          have HM := Lib.hid g1
          have HSS := Lib.hid (show w.heap.size < wr.heap.size by omega)
          go_roundg (gko - 1)
          case measure => have := hi.out; omega
          case rel =>
            refine ⟨i + 1, by rw [Int.natCast_add]; rfl, ?_, HM.out, HSS.out, HFN.out⟩
            have := hi.out; show i + 1 + (gko - 1) = l.length; omega
        · have hjt : j < rs.length := by have := hj.out; omega
          have hjt2 : (j : Int) < (rs.length : Int) := by omega
          have hj0 : (0 : Int) ≤ (j : Int) := by omega
          obtain ⟨g1, g2, g3, g4, g5, g6⟩ := HI.out
          have hrr : Rows 6 RRule B wr (.slice pa rs.length pc) rs := HRV.out.mod RRule.stay g1
          obtain ⟨a2, rfl, -, cs2, hk2, hd0, hdj, v0, v1, v2, v3, v4, rfl, r0, r1, r2, r3, r4, rx⟩ := hrr.at j hjt
          have c0 := hd0 (by decide)
          have c1 := hdj 1 (by decide) (by decide)
          have c2 := hdj 2 (by decide) (by decide)
          have c3 := hdj 3 (by decide) (by decide)
          have c4 := hdj 4 (by decide) (by decide)
          have c5 := hdj 5 (by decide) (by decide)
          simp only [List.getElem?_cons_zero, List.getElem?_cons_succ] at c0 c1 c2 c3 c4 c5
          obtain ⟨n0, m0, rfl, -⟩ := r0.form
          obtain ⟨n1, m1, rfl, -⟩ := r1.form
          obtain ⟨n2, m2, rfl, -⟩ := r2.form
          obtain ⟨n3, m3, rfl, -⟩ := r3.form
          obtain ⟨n4, m4, rfl, -⟩ := r4.form
          have HRR := Lib.hid (And.intro r0 (And.intro r1 (And.intro r2 (And.intro r3 (And.intro r4 rx)))))
          have HSM := Lib.hid (HLL.out.2 _ (List.getElem_mem hjt))
          unfold RuleSmall at HSM
          have HDJ : Hid (rs[j] = ⟨(rs[j]).back, (rs[j]).ins, (rs[j]).ahead, (rs[j]).out, (rs[j]).calls, (rs[j]).x⟩) := rfl
          generalize (rs[j]).back = rb at *
          generalize (rs[j]).ins = ri at *
          generalize (rs[j]).ahead = ra at *
          generalize (rs[j]).out = ro at *
          generalize (rs[j]).calls = rc at *
          generalize (rs[j]).x = rxx at *
          have e2 : IntKind.i64.wrap ((j : Int) + 1) = (j : Int) + 1 := IntWalk.i64_in _ (by have := HLL.out.1; omega)
          have TJ := Lib.hid (((Own.start w).call g1).alloc #[.slice n0 rb.length m0, .slice n1 ri.length m1, .slice n2 ra.length m2, .slice n3 ro.length m3, .slice n4 rc.length m4, .int .i64 rxx] 103)
          have HG := Lib.hid (And.intro g2 (And.intro g3 (And.intro g4 (And.intro g5 g6))))
          clear r0 r1 r2 r3 r4 rx hrr hk2 hd0 hdj hjn g1 g2 g3 g4 g5 g6
          go_upto_region 9 with fail
          have HG1 := Lib.hid (show Above (w.heap.size + 1) W1 (wr.alloc (.cells #[.slice n0 rb.length m0, .slice n1 ri.length m1, .slice n2 ra.length m2, .slice n3 ro.length m3, .slice n4 rc.length m4, .int .i64 rxx] 103)) ∧ b2 < wr.heap.size ∧ W1.heap.size ≤ wr.heap.size ∧ Blk (wr.alloc (.cells #[.slice n0 rb.length m0, .slice n1 ri.length m1, .slice n2 ra.length m2, .slice n3 ro.length m3, .slice n4 rc.length m4, .int .i64 rxx] 103)) w.heap.size pc3 99 ∧ Fill 6 RRule (b2 + 1) (wr.alloc (.cells #[.slice n0 rb.length m0, .slice n1 ri.length m1, .slice n2 ra.length m2, .slice n3 ro.length m3, .slice n4 rc.length m4, .int .i64 rxx] 103)) b2 103 rs j from
            ⟨HG.out.1.then HG.out.2.1 (((Mod.refl _ _).alloc _).above _), HG.out.2.2.1, HG.out.2.1, HG.out.2.2.2.1.alloc _, HG.out.2.2.2.2.mod RRule.stay ((Mod.refl _ _).alloc _)⟩)
          have HR1 := Lib.hid (fun W (m : Mod [] (wr.alloc (.cells #[.slice n0 rb.length m0, .slice n1 ri.length m1, .slice n2 ra.length m2, .slice n3 ro.length m3, .slice n4 rc.length m4, .int .i64 rxx] 103)) W) => ((Mod.refl [] wr).alloc (.cells #[.slice n0 rb.length m0, .slice n1 ri.length m1, .slice n2 ra.length m2, .slice n3 ro.length m3, .slice n4 rc.length m4, .int .i64 rxx] 103)).then m)
          have hb7 : b2 + 1 ≤ wr.heap.size := HG.out.2.2.1
          have hb8 : wr.heap.size < (wr.alloc (.cells #[.slice n0 rb.length m0, .slice n1 ri.length m1, .slice n2 ra.length m2, .slice n3 ro.length m3, .slice n4 rc.length m4, .int .i64 rxx] 103)).heap.size := by simp
          generalize wr.alloc (.cells #[.slice n0 rb.length m0, .slice n1 ri.length m1, .slice n2 ra.length m2, .slice n3 ro.length m3, .slice n4 rc.length m4, .int .i64 rxx] 103) = WB at *
          have HB7 := Lib.hid (And.intro hb7 hb8)
          generalize hb7e : wr.heap.size = b7 at *
          clear c0 c1 c2 c3 c4 c5 HG hb7 hb8
          have A0 := (TJ.out.at 0 rfl).every
          have E2 : ∀ W, Mod [] WB W → W.cell? ⟨w.heap.size, i * 3 + 2, none⟩ = some (.slice (some ⟨b2, 0, none⟩) rs.length rs.length) := fun W m => by rw [(HG1.out.2.2.2.1.kept m (by simp)).cell]; exact HCC.out
          refine Sq.wp_region_toks 24 [(0, none), (1, none), (2, none), (3, none), (4, none), (5, none), (6, none), (7, none), (9, none), (10, none), (12, none), (13, none), (15, none), (16, none), (18, none), (19, none), (21, none), (22, none), (8, some (FRows 1 RSet WB.heap.size rb)), (11, some (FRows 1 RSet WB.heap.size ri)), (14, some (FRows 1 RSet WB.heap.size ra)), (17, some (FRows 1 RInt WB.heap.size ro)), (20, some (FRows 2 RCall WB.heap.size rc)), (23, none)] (by kernel_rfl) (by kernel_rfl) (Sq.nodup_of (by kernel_rfl)) ?hTS243 ?mainS243
          case hTS243 =>
            intro p hp T hT v
            simp only [List.mem_cons, List.not_mem_nil, or_false] at hp
            rcases hp with rfl | rfl | rfl | rfl | rfl | rfl | rfl | rfl | rfl | rfl | rfl | rfl | rfl | rfl | rfl | rfl | rfl | rfl | rfl | rfl | rfl | rfl | rfl | rfl <;> first | (cases hT; done) | (cases hT; first | exact FRows.stays RCall.stay _ | exact FRows.stays RInt.stay _ | exact FRows.stays RSet.stay _)
          refine Sq.v_go (a' := ?_) rfl (by kernel_rfl) ?_ (fun w' hw' K Q hK => ?_) ?_
          rotate_left 2
          · go_wp2_with fail; exact hK _ (Mod.refl _ _)
          rotate_left
          · rfl
          refine Sq.v_go (a' := ?_) rfl (by kernel_rfl) ?_ (fun w' hw' K Q hK => ?_) ?_
          rotate_left 2
          · go_wp2_with fail; exact hK _ (Mod.refl _ _)
          rotate_left
          · rfl
          refine Sq.v_go (a' := ?_) rfl (by kernel_rfl) ?_ (fun w' hw' K Q hK => ?_) ?_
          rotate_left 2
          · go_wp2_with fail; exact hK _ (Mod.refl _ _)
          rotate_left
          · rfl
          refine Sq.v_go (a' := ?_) rfl (by kernel_rfl) ?_ (fun w' hw' K Q hK => ?_) ?_
          rotate_left 2
          · go_wp2_with fail; exact hK _ (Mod.refl _ _)
          rotate_left
          · rfl
          refine Sq.v_go (a' := ?_) rfl (by kernel_rfl) ?_ (fun w' hw' K Q hK => ?_) ?_
          rotate_left 2
          · go_wp2_with fail; exact hK _ (Mod.refl _ _)
          rotate_left
          · rfl
          refine Sq.v_go (a' := ?_) rfl (by kernel_rfl) ?_ (fun w' hw' K Q hK => ?_) ?_
          rotate_left 2
          · go_wp2_with fail; exact hK _ (Mod.refl _ _)
          rotate_left
          · rfl
          refine Sq.v_go (a' := ?_) rfl (by kernel_rfl) ?_ (fun w' hw' K Q hK => ?_) ?_
          rotate_left 2
          · go_wp2_with fail; exact hK _ (Mod.refl _ _)
          rotate_left
          · rfl
          refine Sq.v_go (a' := ?_) rfl (by kernel_rfl) ?_ (fun w' hw' K Q hK => ?_) ?_
          rotate_left 2
          · go_wp2_with fail; exact hK _ (Mod.refl _ _)
          rotate_left
          · rfl
          refine Sq.v_go (a' := ?_) rfl (by kernel_rfl) ?_ (fun w' hw' K Q hK => ?_) ?_
          rotate_left 2
          · go_wp2_with fail; exact hK _ (Mod.refl _ _)
          rotate_left
          · rfl
          refine Sq.v_go (a' := ?_) rfl (by kernel_rfl) ?_ (fun w' hw' K Q hK => ?_) ?_
          rotate_left 2
          · go_wp2_with fail; exact hK _ (Mod.refl _ _)
          rotate_left
          · rfl
          refine Sq.v_go (a' := ?_) rfl (by kernel_rfl) ?_ (fun w' hw' K Q hK => ?_) ?_
          rotate_left 2
          · go_wp2_with fail; exact hK _ (Mod.refl _ _)
          rotate_left
          · rfl
          refine Sq.v_go (a' := ?_) rfl (by kernel_rfl) ?_ (fun w' hw' K Q hK => ?_) ?_
          rotate_left 2
          · go_wp2_with fail; exact hK _ (Mod.refl _ _)
          rotate_left
          · rfl
          refine Sq.v_go (a' := ?_) rfl (by kernel_rfl) ?_ (fun w' hw' K Q hK => ?_) ?_
          rotate_left 2
          · go_wp2_with fail; exact hK _ (Mod.refl _ _)
          rotate_left
          · rfl
          refine Sq.v_go (a' := ?_) rfl (by kernel_rfl) ?_ (fun w' hw' K Q hK => ?_) ?_
          rotate_left 2
          · go_wp2_with fail; exact hK _ (Mod.refl _ _)
          rotate_left
          · rfl
          refine Sq.v_go (a' := ?_) rfl (by kernel_rfl) ?_ (fun w' hw' K Q hK => ?_) ?_
          rotate_left 2
          · go_wp2_with fail; exact hK _ (Mod.refl _ _)
          rotate_left
          · rfl
          refine Sq.v_go (a' := ?_) rfl (by kernel_rfl) ?_ (fun w' hw' K Q hK => ?_) ?_
          rotate_left 2
          · go_wp2_with fail; exact hK _ (Mod.refl _ _)
          rotate_left
          · rfl
          refine Sq.v_go (a' := ?_) rfl (by kernel_rfl) ?_ (fun w' hw' K Q hK => ?_) ?_
          rotate_left 2
          · go_wp2_with fail; exact hK _ (Mod.refl _ _)
          rotate_left
          · rfl
          refine Sq.v_go (a' := ?_) rfl (by kernel_rfl) ?_ (fun w' hw' K Q hK => ?_) ?_
          rotate_left 2
          · go_wp2_with fail; exact hK _ (Mod.refl _ _)
          rotate_left
          · rfl
          refine Sq.k_go (f := ?_) rfl rfl (fun v => by simp only [Act.put]; (try simp only [List.setIfInBounds_toArray]); (try simp only [List.set_cons_succ, List.set_cons_zero]); exact rfl) (fun w' hw' hF K Q hK => ?_) (fun kv8 hkv8 => ?_)
          · clear hF
            go_wp2_with fail
            refine (rows_Int_f _ _ _ _ _ (HRR.out.1.mod RSet.stay (HR1.out _ hw')) HSM.out.1 hw'.size).mono ?_
            rintro e w'' ⟨v, rfl, hv, mm⟩
            go_wp2_with fail
            exact hK _ _ mm hv
          obtain ⟨_, -, q⟩ := hkv8; obtain ⟨x0, y0, rfl⟩ := q.form; clear q
          refine Sq.k_go (f := ?_) rfl rfl (fun v => by simp only [Act.put]; (try simp only [List.setIfInBounds_toArray]); (try simp only [List.set_cons_succ, List.set_cons_zero]); exact rfl) (fun w' hw' hF K Q hK => ?_) (fun kv11 hkv11 => ?_)
          · clear hF
            go_wp2_with fail
            refine (rows_Int_f _ _ _ _ _ (HRR.out.2.1.mod RSet.stay (HR1.out _ hw')) HSM.out.2.1 hw'.size).mono ?_
            rintro e w'' ⟨v, rfl, hv, mm⟩
            go_wp2_with fail
            exact hK _ _ mm hv
          obtain ⟨_, -, q⟩ := hkv11; obtain ⟨x1, y1, rfl⟩ := q.form; clear q
          refine Sq.k_go (f := ?_) rfl rfl (fun v => by simp only [Act.put]; (try simp only [List.setIfInBounds_toArray]); (try simp only [List.set_cons_succ, List.set_cons_zero]); exact rfl) (fun w' hw' hF K Q hK => ?_) (fun kv14 hkv14 => ?_)
          · clear hF
            go_wp2_with fail
            refine (rows_Int_f _ _ _ _ _ (HRR.out.2.2.1.mod RSet.stay (HR1.out _ hw')) HSM.out.2.2.1 hw'.size).mono ?_
            rintro e w'' ⟨v, rfl, hv, mm⟩
            go_wp2_with fail
            exact hK _ _ mm hv
          obtain ⟨_, -, q⟩ := hkv14; obtain ⟨x2, y2, rfl⟩ := q.form; clear q
          refine Sq.k_go (f := ?_) rfl rfl (fun v => by simp only [Act.put]; (try simp only [List.setIfInBounds_toArray]); (try simp only [List.set_cons_succ, List.set_cons_zero]); exact rfl) (fun w' hw' hF K Q hK => ?_) (fun kv17 hkv17 => ?_)
          · clear hF
            go_wp2_with fail
            refine (fcopy_Int _ _ _ _ _ (HRR.out.2.2.2.1.mod RInt.stay (HR1.out _ hw')) HSM.out.2.2.2.1 hw'.size).mono ?_
            rintro e w'' ⟨v, rfl, hv, mm⟩
            go_wp2_with fail
            exact hK _ _ mm hv
          obtain ⟨_, -, q⟩ := hkv17; obtain ⟨x3, y3, rfl⟩ := q.form; clear q
          refine Sq.k_go (f := ?_) rfl rfl (fun v => by simp only [Act.put]; (try simp only [List.setIfInBounds_toArray]); (try simp only [List.set_cons_succ, List.set_cons_zero]); exact rfl) (fun w' hw' hF K Q hK => ?_) (fun kv20 hkv20 => ?_)
          · clear hF
            go_wp2_with fail
            refine (fcopy_Call _ _ _ _ _ (HRR.out.2.2.2.2.1.mod RCall.stay (HR1.out _ hw')) HSM.out.2.2.2.2 hw'.size).mono ?_
            rintro e w'' ⟨v, rfl, hv, mm⟩
            go_wp2_with fail
            exact hK _ _ mm hv
          obtain ⟨_, -, q⟩ := hkv20; obtain ⟨x4, y4, rfl⟩ := q.form; clear q
          refine Sq.v_go (a' := ?_) rfl (by kernel_rfl) ?_ (fun w' hw' K Q hK => ?_) ?_
          rotate_left 2
          · go_wp2_with fail; exact hK _ (Mod.refl _ _)
          rotate_left
          · rfl
          refine Sq.nil_go ?_
          intro w' hw' hF
          simp only [List.drop_succ_cons, List.drop_zero]
          have HF := Lib.hid hF
          have HW2 := Lib.hid hw'
          have TJ2 := Lib.hid (TJ.out.call hw')
          have F4 := Lib.hid (HG1.out.2.2.2.2.mod RRule.stay hw')
          have HRX := Lib.hid HRR.out.2.2.2.2.2
          clear hF hw' A0 E2 HR1 HRR TJ
          obtain ⟨o0, q0, z0⟩ := F4.out.cell (q := j * 6) (by omega)
          obtain ⟨o1, q1, z1⟩ := F4.out.cell (q := j * 6 + 1) (by omega)
          obtain ⟨o2, q2, z2⟩ := F4.out.cell (q := j * 6 + 2) (by omega)
          obtain ⟨o3, q3, z3⟩ := F4.out.cell (q := j * 6 + 3) (by omega)
          obtain ⟨o4, q4, z4⟩ := F4.out.cell (q := j * 6 + 4) (by omega)
          obtain ⟨o5, q5, z5⟩ := F4.out.cell (q := j * 6 + 5) (by omega)
          go_wp2_with fail
          have XF : ((((((w'.setCell ⟨b2, j * 6, none⟩ (.slice x0 rb.length y0)).setCell ⟨b2, j * 6 + 1, none⟩ (.slice x1 ri.length y1)).setCell ⟨b2, j * 6 + 2, none⟩ (.slice x2 ra.length y2)).setCell ⟨b2, j * 6 + 3, none⟩ (.slice x3 ro.length y3)).setCell ⟨b2, j * 6 + 4, none⟩ (.slice x4 rc.length y4)).setCell ⟨b2, j * 6 + 5, none⟩ (.int .i64 rxx)) = setN w' (b2) (j * 6) [.slice x0 rb.length y0, .slice x1 ri.length y1, .slice x2 ra.length y2, .slice x3 ro.length y3, .slice x4 rc.length y4, .int .i64 rxx] := rfl
          rw [XF]
          clear XF
          clear q0 q1 q2 q3 q4 q5 z0 z1 z2 z3 z4 z5
          obtain ⟨⟨⟨⟨⟨-, k0⟩, k1⟩, k2⟩, k3⟩, k4⟩ := HF.out
          have hlo : b2 + 1 ≤ WB.heap.size := by have := HB7.out; omega
          have HFJ := Lib.hid (F4.out.setK RRule.stay hjt (cs := [.slice x0 rb.length y0, .slice x1 ri.length y1, .slice x2 ra.length y2, .slice x3 ro.length y3, .slice x4 rc.length y4, .int .i64 rxx]) rfl (by
            rw [HDJ.out]
            exact ⟨_, _, _, _, _, rfl, Rows.lower RSet.lower k0 hlo, Rows.lower RSet.lower k1 hlo, Rows.lower RSet.lower k2 hlo, Rows.lower RInt.lower k3 hlo, Rows.lower RCall.lower k4 hlo, HRX.out⟩) (Nat.lt_succ_self _))
          have HM := Lib.hid (setN_mod (w0 := w) (b := b2) (by omega) [.slice x0 rb.length y0, .slice x1 ri.length y1, .slice x2 ra.length y2, .slice x3 ro.length y3, .slice x4 rc.length y4, .int .i64 rxx] (j * 6) w' TJ2.out.mod)
          have HO := Lib.hid (fun k (hk : k ≠ b2) => setN_other hk [.slice x0 rb.length y0, .slice x1 ri.length y1, .slice x2 ra.length y2, .slice x3 ro.length y3, .slice x4 rc.length y4, .int .i64 rxx] (j * 6) w')
          have HS := Lib.hid (setN_size (b := b2) [.slice x0 rb.length y0, .slice x1 ri.length y1, .slice x2 ra.length y2, .slice x3 ro.length y3, .slice x4 rc.length y4, .int .i64 rxx] (j * 6) w')
          generalize setN w' b2 (j * 6) [.slice x0 rb.length y0, .slice x1 ri.length y1, .slice x2 ra.length y2, .slice x3 ro.length y3, .slice x4 rc.length y4, .int .i64 rxx] = W9 at *
          go_roundg (gk - 1)
          case measure => have := hj.out; omega
          case rel =>
            have hws := HW2.out.size
            have hsz := HS.out
            have hb7 := HB7.out
            refine ⟨j + 1, by rw [Int.natCast_add]; rfl, ?_, HM.out, fun k hk hlt' => ?_, by have := HG1.out.2.2.1; omega, by omega, ?_, HFJ.out⟩
            · have := hj.out; show j + 1 + (gk - 1) = rs.length; omega
            · rw [HO.out k (by omega)]
              exact (HG1.out.1.then (by have := HG1.out.2.2.1; omega) (HW2.out.above _)) k hk hlt'
            · exact (HO.out _ (by omega)).trans (HG1.out.2.2.2.1.kept HW2.out (by simp))
end Go.Proofs.Ytaloembfekdkoaa

namespace Go.Proofs.Ytaloembfekdkoaa
open Go.RowKit
set_option linter.unusedVariables false
set_option maxRecDepth 100000
theorem Try.featinfo : (Try.prog.info? 109).map (fun i => (i.zero, i.size, i.bytes)) = some (some (.agg #[.string ⟨#[]⟩, .slice none 0 0]), 2, 40) := by kernel_rfl
set_option maxHeartbeats 2000000 in
theorem features_any (v : Value) (l : List DFeature) (B : Nat) (w : World) (h : Rows 2 RFeature B w v l) (hl : l.length * 40 ≤ 140737488351232) (hll : ∀ x ∈ l, x.lookups.length * 8 ≤ 140737488351232) :
    Calls Try.prog 13 #[v] w fun e w' => ∃ u, e = .returned u ∧ Mod [] w w' ∧ Rows 2 RFeature w.heap.size w' u l := by
  obtain ⟨oa, cap, rfl, hm⟩ := h.form
  obtain ⟨i0, hi, hz0, hz1, hz2⟩ := info_parts Try.featinfo
  have hmk := fun W => run_make (P := Try.prog) W 25 109 i0 (.agg #[.string ⟨#[]⟩, .slice none 0 0]) Try.underlying25 hi hz0 .i64 .i64 (l.length : Int) (l.length : Int) (by omega) (by omega) (by rw [hz2]; omega) (by omega)
  rw [hz1] at hmk
  simp only [Int.toNat_natCast] at hmk
  generalize hmc : madeCells (Value.agg #[.string ⟨#[]⟩, .slice none 0 0]).cells (l.length * 2) = mc at hmk
  have HSZ : Hid (mc.size = l.length * 2) := by rw [← hmc]; exact size_made _ _
  have HR := Lib.hid h
  have HL := Lib.hid (And.intro hl (And.intro hll hm))
  clear h hl hll hmc hm
  go_enter Try.func13, Try.ntmps13
  go_upto_region 3 with fail
  have F := Lib.hid (Fill.start (k := 2) (R := RFeature) (B := w.heap.size + 1) (l := l) (Blk.new w mc 109) HSZ.out)
  have M := Lib.hid ((Mod.refl [] w).alloc (.cells mc 109))
  generalize w.alloc (.cells mc 109) = W0 at *
  clear hmk HSZ
  go_loopg [11] l.length (fun gk s11 wr => ∃ i : Nat, s11 = .int .i64 (i : Int) ∧ Hid (i + gk = l.length) ∧ Hid (Mod [] w wr ∧ w.heap.size < wr.heap.size ∧ Fill 2 RFeature (w.heap.size + 1) wr w.heap.size 109 l i))
  case atStart => exact ⟨0, rfl, by show 0 + l.length = l.length; omega, M.out, by obtain ⟨c, B, _⟩ := F.out; exact B.lt, F.out⟩
  case round =>
    obtain ⟨i, rfl, hi, HV⟩ := hrel
    clear F M
    by_cases hn : i = l.length
    · subst hn
      go_wp2_with fail
      go_ret
      exact ⟨_, rfl, HV.out.1, HV.out.2.2.done RFeature.lower HL.out.2.2 (Nat.le_refl _) (by omega)⟩
    · have hlt : i < l.length := by have := hi.out; omega
      have hlt2 : (i : Int) < (l.length : Int) := by omega
      have h0 : (0 : Int) ≤ (i : Int) := by omega
      obtain ⟨a, rfl, hB, cs, hk, hc0, hcj, rv, rfl, hnm, hrv⟩ := (HR.out.mod RFeature.stay HV.out.1).at i hlt
      have c0 := hc0 (by decide)
      have c1 := hcj 1 (by decide) (by decide)
      simp only [List.getElem?_cons_zero, List.getElem?_cons_succ] at c0 c1
      obtain ⟨pa, pc, rfl, hpm⟩ := hrv.form
      have HRV := Lib.hid hrv
      have HNM := Lib.hid hnm
      have HLL := Lib.hid (HL.out.2.1 _ (List.getElem_mem hlt))
      have e1 : IntKind.i64.wrap ((i : Int) + 1) = (i : Int) + 1 := IntWalk.i64_in _ (by have := HL.out.1; omega)
      have HDX : Hid (l[i] = ⟨(l[i]).name, (l[i]).lookups⟩) := rfl
      generalize (l[i]).name = nm at *
      generalize (l[i]).lookups = lk at *
      clear hrv hB hk hc0 hcj hn hnm
      have T := Lib.hid (((Own.start w).call HV.out.1).alloc #[.string nm, .slice pa lk.length pc] 109)
      have HV1 := Lib.hid (HV.out.2.2.mod RFeature.stay ((Mod.refl _ _).alloc (.cells #[.string nm, .slice pa lk.length pc] 109)))
      have HRV1 := Lib.hid (HRV.out.mod RInt.stay ((Mod.refl _ _).alloc (.cells #[.string nm, .slice pa lk.length pc] 109)))
      have HSZ : Hid (w.heap.size < wr.heap.size) := HV.out.2.1
      go_upto_region 5 with fail
      generalize wr.alloc (.cells #[.string nm, .slice pa lk.length pc] 109) = W1 at *
      generalize wr.heap.size = b5 at *
      clear c0 c1 HV
      have A0 := (T.out.at 0 rfl).every
      refine Sq.wp_region_toks 8 [(0, none), (1, none), (2, none), (3, none), (4, none), (5, none), (6, some (FRows 1 RInt W1.heap.size lk)), (7, none)] (by kernel_rfl) (by kernel_rfl) (Sq.nodup_of (by kernel_rfl)) ?hTS62 ?mainS62
      case hTS62 =>
        intro p hp T hT v
        simp only [List.mem_cons, List.not_mem_nil, or_false] at hp
        rcases hp with rfl | rfl | rfl | rfl | rfl | rfl | rfl | rfl <;> first | (cases hT; done) | (cases hT; first | exact FRows.stays RInt.stay _)
      refine Sq.v_go (a' := ?_) rfl (by kernel_rfl) ?_ (fun w' hw' K Q hK => ?_) ?_
      rotate_left 2
      · go_wp2_with fail; exact hK _ (Mod.refl _ _)
      rotate_left
      · rfl
      refine Sq.v_go (a' := ?_) rfl (by kernel_rfl) ?_ (fun w' hw' K Q hK => ?_) ?_
      rotate_left 2
      · go_wp2_with fail; exact hK _ (Mod.refl _ _)
      rotate_left
      · rfl
      refine Sq.v_go (a' := ?_) rfl (by kernel_rfl) ?_ (fun w' hw' K Q hK => ?_) ?_
      rotate_left 2
      · go_wp2_with fail; exact hK _ (Mod.refl _ _)
      rotate_left
      · rfl
      refine Sq.v_go (a' := ?_) rfl (by kernel_rfl) ?_ (fun w' hw' K Q hK => ?_) ?_
      rotate_left 2
      · go_wp2_with fail; exact hK _ (Mod.refl _ _)
      rotate_left
      · rfl
      refine Sq.v_go (a' := ?_) rfl (by kernel_rfl) ?_ (fun w' hw' K Q hK => ?_) ?_
      rotate_left 2
      · go_wp2_with fail; exact hK _ (Mod.refl _ _)
      rotate_left
      · rfl
      refine Sq.v_go (a' := ?_) rfl (by kernel_rfl) ?_ (fun w' hw' K Q hK => ?_) ?_
      rotate_left 2
      · go_wp2_with fail; exact hK _ (Mod.refl _ _)
      rotate_left
      · rfl
      refine Sq.k_go (f := ?_) rfl rfl (fun v => by simp only [Act.put]; (try simp only [List.setIfInBounds_toArray]); (try simp only [List.set_cons_succ, List.set_cons_zero]); exact rfl) (fun w' hw' hF K Q hK => ?_) (fun kv6 hkv6 => ?_)
      · clear hF
        go_wp2_with fail
        refine (fcopy_Int _ _ _ _ _ (HRV1.out.mod RInt.stay hw') HLL.out hw'.size).mono ?_
        rintro e w'' ⟨v, rfl, hv, mm⟩
        go_wp2_with fail
        exact hK _ _ mm hv
      obtain ⟨_, -, q⟩ := hkv6; obtain ⟨u, e, rfl⟩ := q.form; clear q
      refine Sq.v_go (a' := ?_) rfl (by kernel_rfl) ?_ (fun w' hw' K Q hK => ?_) ?_
      rotate_left 2
      · go_wp2_with fail; exact hK _ (Mod.refl _ _)
      rotate_left
      · rfl
      refine Sq.nil_go ?_
      intro w' hw' hF
      simp only [List.drop_succ_cons, List.drop_zero]
      obtain ⟨-, hu⟩ := hF
      have HU := Lib.hid (show Rows 1 RInt W1.heap.size w' (.slice u lk.length e) lk from hu)
      have T2 := Lib.hid (T.out.call hw')
      have F2 := Lib.hid (HV1.out.mod RFeature.stay hw')
      have hs1 : w.heap.size + 1 ≤ W1.heap.size := by have := (T.out.at 0 rfl).lt; have := HSZ.out; omega
      obtain ⟨o0, q0, q1⟩ := F2.out.cell (q := i * 2) (by omega)
      obtain ⟨o1, q2, q3⟩ := F2.out.cell (q := i * 2 + 1) (by omega)
      clear hu hw' A0 T HV1 HRV HRV1
      go_wp2_with fail
      have XF : ((w'.setCell ⟨w.heap.size, i * 2, none⟩ (.string nm)).setCell ⟨w.heap.size, i * 2 + 1, none⟩ (.slice u lk.length e)) = setN w' (w.heap.size) (i * 2) [.string nm, .slice u lk.length e] := rfl
      rw [XF]
      clear XF
      have HF := Lib.hid (F2.out.setK RFeature.stay hlt (cs := [.string nm, .slice u lk.length e]) rfl (by rw [HDX.out]; exact ⟨_, rfl, HNM.out, HU.out.lower RInt.lower hs1⟩) (Nat.lt_succ_self _))
      have HM := Lib.hid (setN_mod (w0 := w) (b := w.heap.size) (Nat.le_refl _) [.string nm, .slice u lk.length e] (i * 2) w' T2.out.mod)
      have HS := Lib.hid (show w.heap.size < (setN w' w.heap.size (i * 2) [.string nm, .slice u lk.length e]).heap.size by rw [setN_size]; have := (T2.out.at 0 rfl).lt; have := (T2.out.ge 0 rfl); omega)
      generalize setN w' w.heap.size (i * 2) [.string nm, .slice u lk.length e] = W9 at *
      clear q0 q1 q2 q3
      go_roundg (gk - 1)
      case measure => have := hi.out; omega
      case rel =>
        refine ⟨i + 1, by rw [Int.natCast_add]; rfl, ?_, HM.out, HS.out, HF.out⟩
        have := hi.out; show i + 1 + (gk - 1) = l.length; omega
end Go.Proofs.Ytaloembfekdkoaa

namespace Go.Proofs.Ytaloembfekdkoaa
open Go.RowKit
set_option linter.unusedVariables false
theorem shiftsR_ne {regs : List DRegion} {xs : List (Int × Int)} {np : Nat} : ∀ (ds : List DDelta) (m : List (Int × Sh)) (k : Int), Vr.shiftsR regs xs np ds m = .error k → k ≠ 0
  | [], m, k, h => by unfold Vr.shiftsR at h; cases h
  | d :: ds, m, k, h => by
    unfold Vr.shiftsR at h
    cases hs : Vr.shiftStep regs xs np m d with
    | error e =>
      rw [hs] at h
      cases h
      unfold Vr.shiftStep at hs
      split at hs
      · split at hs
        · split at hs
          · cases hs; decide
          · split at hs
            · cases hs; decide
            · cases hs
        · cases hs; decide
      · cases hs; decide
    | ok m' =>
      rw [hs] at h
      exact shiftsR_ne ds m' k h
theorem glyphR_ne {regs : List DRegion} {xs : List (Int × Int)} {g : DGlyph} {k : Int} (h : Vr.glyphR regs xs g = .error k) : k ≠ 0 := by
  unfold Vr.glyphR at h
  cases hs : Vr.shiftsR regs xs g.pts.length g.deltas [] with
  | error e =>
    rw [hs] at h
    cases h
    exact shiftsR_ne _ _ _ hs
  | ok m =>
    rw [hs] at h
    simp only at h
    split at h
    · cases h; decide
    · split at h
      · cases h; decide
      · cases h
def Vr.outG (regs : List DRegion) (xs : List (Int × Int)) (g : DGlyph) : DGlyph := match Vr.glyphR regs xs g with | .ok x => x | .error _ => g
def Vr.fontGs (regs : List DRegion) (xs : List (Int × Int)) : List DGlyph → Except Int (List DGlyph)
  | [] => .ok []
  | g :: r => match Vr.glyphR regs xs g with
    | .error k => .error k
    | .ok x => match Vr.fontGs regs xs r with
      | .error k => .error k
      | .ok l => .ok (x :: l)
theorem fontGs_err {regs : List DRegion} {xs : List (Int × Int)} {k : Int} : ∀ (gs : List DGlyph) (i : Nat) (g : DGlyph), gs[i]? = some g → (∀ j x, j < i → gs[j]? = some x → ∃ y, Vr.glyphR regs xs x = .ok y) → Vr.glyphR regs xs g = .error k → Vr.fontGs regs xs gs = .error k
  | [], i, g, h, _, _ => by simp at h
  | x :: r, 0, g, h, _, he => by
    simp at h
    subst h
    unfold Vr.fontGs
    rw [he]
  | x :: r, i + 1, g, h, ha, he => by
    obtain ⟨y, hy⟩ := ha 0 x (by omega) rfl
    have ih := fontGs_err r i g (by simpa using h) (fun j z hj hz => ha (j + 1) z (by omega) (by simpa using hz)) he
    unfold Vr.fontGs
    rw [hy]
    simp only
    rw [ih]
theorem fontGs_ok {regs : List DRegion} {xs : List (Int × Int)} : ∀ (gs : List DGlyph), (∀ x ∈ gs, ∃ y, Vr.glyphR regs xs x = .ok y) → Vr.fontGs regs xs gs = .ok (gs.map (Vr.outG regs xs))
  | [], _ => rfl
  | x :: r, h => by
    obtain ⟨y, hy⟩ := h x (by simp)
    unfold Vr.fontGs
    rw [hy]
    simp only
    rw [fontGs_ok r fun z hz => h z (by simp [hz])]
    simp only [List.map_cons, Vr.outG, hy]
noncomputable def Vr.fontR (F : DFont) (xs : List Int) : Except Int DFont :=
  match Vr.normR F.axes xs with
  | .error k => .error k
  | .ok at' => match Vr.fontGs F.regions at' F.glyphs with
    | .error k => .error k
    | .ok gs => .ok { F with glyphs := gs, axes := [], regions := [] }
def zeroFontL : List Value := [.int .i64 0, .slice none 0 0, .slice none 0 0, .slice none 0 0, .slice none 0 0, .slice none 0 0, .slice none 0 0, .slice none 0 0, .slice none 0 0]
def VFRes (r : Except Int DFont) (w : World) (e : Ending) (w' : World) : Prop :=
  Mod [] w w' ∧ match r with
  | .ok F => ∃ cs, e = .returned (.tuple #[.agg cs.toArray, .int .i64 0]) ∧ RFont w.heap.size w' cs F
  | .error k => e = .returned (.tuple #[.agg zeroFontL.toArray, .int .i64 k])
def FSmall (F : DFont) : Prop := (F.glyphs.length * 176 ≤ 140737488351232 ∧ ∀ g ∈ F.glyphs, GSmall g) ∧ F.chars.length * 16 ≤ 140737488351232 ∧ (F.lookups.length * 40 ≤ 140737488351232 ∧ ∀ x ∈ F.lookups, x.rules.length * 128 ≤ 140737488351232 ∧ ∀ r ∈ x.rules, RuleSmall r) ∧ (F.features.length * 40 ≤ 140737488351232 ∧ ∀ x ∈ F.features, x.lookups.length * 8 ≤ 140737488351232) ∧ (F.funcs.length * 24 ≤ 140737488351232 ∧ ∀ x ∈ F.funcs, x.length * 16 ≤ 140737488351232) ∧ F.cvt.length * 8 ≤ 140737488351232
section
variable {α : Type} {k B : Nat} {R : Nat → World → List Value → α → Prop} {w w' : World} {b : Nat} {t : TypeId} {l : List α} {i : Nat}
theorem Fill.aboveB (hR : Stay R) (h : Fill k R B w b t l i) (m : Above B w w') (hb : w'.heap[b]? = w.heap[b]?) : Fill k R B w' b t l i := by
  obtain ⟨c, h1, h2, h3⟩ := h
  refine ⟨c, hb.trans h1, h2, fun j hj hi => ?_⟩
  obtain ⟨cs, h4, h5, h6⟩ := h3 j hj hi
  exact ⟨cs, h4, h5, hR _ _ _ _ _ h6 m⟩
theorem Fill.lt (h : Fill k R B w b t l i) : b < w.heap.size := by
  obtain ⟨c, h1, _⟩ := h
  exact h1.lt
end
theorem above_of {F : List Nat} {B : Nat} {w w' : World} (m : Mod F w w') (hF : ∀ x ∈ F, x < B) : Above B w w' := fun k hk hlt => m.block k hlt fun h => by have := hF k h; omega
theorem lookups_f (v : Value) (l : List DLookup) (B B0 : Nat) (w : World) (h : Rows 3 RLookup B w v l) (hl : l.length * 40 ≤ 140737488351232) (hll : ∀ x ∈ l, x.rules.length * 128 ≤ 140737488351232 ∧ ∀ r ∈ x.rules, RuleSmall r) (hB : B0 ≤ w.heap.size) :
    Calls Try.prog 12 #[v] w fun e w' => ∃ u, e = .returned u ∧ FRows 3 RLookup B0 l u w' ∧ Mod [] w w' :=
  (lookups_any v l B w h hl hll).mono fun e w' ⟨u, he, m, hr⟩ => ⟨u, he, hr.lower RLookup.lower hB, m⟩
theorem features_f (v : Value) (l : List DFeature) (B B0 : Nat) (w : World) (h : Rows 2 RFeature B w v l) (hl : l.length * 40 ≤ 140737488351232) (hll : ∀ x ∈ l, x.lookups.length * 8 ≤ 140737488351232) (hB : B0 ≤ w.heap.size) :
    Calls Try.prog 13 #[v] w fun e w' => ∃ u, e = .returned u ∧ FRows 2 RFeature B0 l u w' ∧ Mod [] w w' :=
  (features_any v l B w h hl hll).mono fun e w' ⟨u, he, m, hr⟩ => ⟨u, he, hr.lower RFeature.lower hB, m⟩
theorem rows_Ins_f (v : Value) (l : List (List DIns)) (B B0 : Nat) (w : World) (h : Rows 1 RCode B w v l) (hl : l.length * 24 ≤ 140737488351232 ∧ ∀ x ∈ l, x.length * 16 ≤ 140737488351232) (hB : B0 ≤ w.heap.size) :
    Calls Try.prog 14 #[v] w fun e w' => ∃ u, e = .returned u ∧ FRows 1 RCode B0 l u w' ∧ Mod [] w w' :=
  (rows_Ins v l B w h hl.1 hl.2).mono fun e w' ⟨u, he, m, hr⟩ => ⟨u, he, hr.lower RCode.lower hB, m⟩
theorem chars_f (v : Value) (l : List DChar) (B B0 : Nat) (w : World) (h : Rows 2 RChar B w v l) (hl : l.length * 16 ≤ 140737488351232) (hB : B0 ≤ w.heap.size) :
    Calls Try.prog 11 #[v] w fun e w' => ∃ u, e = .returned u ∧ FRows 2 RChar B0 l u w' ∧ Mod [] w w' :=
  (copy_Char v l B w h hl).mono fun e w' hc => by
    obtain ⟨u, he, m, hr⟩ := copied_Char h hc
    exact ⟨u, he, hr.lower RChar.lower hB, m⟩
theorem cvt_f (v : Value) (l : List Int) (B B0 : Nat) (w : World) (h : Rows 1 RInt B w v l) (hl : l.length * 8 ≤ 140737488351232) (hB : B0 ≤ w.heap.size) :
    Calls Try.prog 15 #[v] w fun e w' => ∃ u, e = .returned u ∧ FRows 1 RInt B0 l u w' ∧ Mod [] w w' :=
  (copy_Int v l B w h hl).mono fun e w' hc => by
    obtain ⟨u, he, m, hr⟩ := copied_Int h hc
    exact ⟨u, he, hr.lower RInt.lower hB, m⟩
end Go.Proofs.Ytaloembfekdkoaa
